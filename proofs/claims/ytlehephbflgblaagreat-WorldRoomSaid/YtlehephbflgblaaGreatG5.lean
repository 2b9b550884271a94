/- What the law's proof stands on, part 5. No condition. -/
import Derived.Test.YtlehephbflgblaaGreatG4
namespace Go.Proofs.YtlehephbflgblaaGreat.H
open Go
set_option linter.unusedVariables false
set_option maxRecDepth 100000
def walO (kD : Nat) (area : Int) (sz : Nat) (torn : Bool) : AObj := .vec TY.wal_Log (plains [.pointer (some ⟨kD, 0, none⟩), .int .i64 area, .int .i64 (sz : Nat), .bool torn]) 4
def tornOf (b : List UInt8) : Bool := decide (wholeL b < b.length)
theorem setD_get {L : List (Option (Nat × AObj))} {i kD k j : Nat} {cs : List Chg} {v : Value} {r : Option (Nat × AObj)} (h1 : j ≠ i) (h2 : j ≠ i + 1) : (setD L i kD cs k v r)[j]? = L[j]? := by
  unfold setD
  rw [List.getElem?_set_ne (Ne.symm h2), List.getElem?_set_ne (Ne.symm h1)]
theorem NilOK.oneW {y : Value} (h : NilOK y) : isOne y = true := by
  rcases h with ⟨g, a, b, rfl⟩ | ⟨l, a, b, rfl⟩ <;> rfl
theorem plainOne (t : TypeId) (v : Value) : PlainO (.vec t [.plain v] 1) := ⟨t, [v], 1, rfl⟩
section
variable {B : RO} {h0 h h' : Heap} {L : List (Option (Nat × AObj))} {r : Option (Nat × AObj)} {i j kD kR kl k sz : Nat} {v : Value} {cs : List Chg} {area : Int} {torn : Bool}
theorem dread0 {a : Int} {Q : ByteArray → Heap → Prop} (g : h kD = some (dskO cs k v)) (ha : a = 0 ∨ a = 1) (hQ : Q (textD a cs) h) : C_disk_Disk_Read B (some ⟨kD, 0, none⟩) a h Q := by
  refine C_disk_Disk_Read.of ?_
  unfold S_disk_Disk_Read
  refine ⟨fun e => (by cases e), fun _ => dgood_wp ⟨fun _ => Fin.of ?_, fun e => absurd ha (by simpa using e)⟩⟩
  unfold S_disk_Disk_Read_J1
  rcases ha with rfl | rfl
  · exact ⟨_, rfl, by omega, by omega, _, by rw [addr_more]; exact cellH_vec g rfl, Fin.of hQ⟩
  · exact ⟨_, rfl, by omega, by omega, _, by rw [addr_more]; exact cellH_vec g rfl, Fin.of hQ⟩
theorem walopen_wp {Q : Option Addr → Int → Heap → Prop} (E : Keep B h0 L h) (A : DAt L i kD cs k v r) (ha : area = 0 ∨ area = 1) (ok : DOk cs)
    (hQ : ∀ kl h', Keep B h0 (L ++ [some (kl, walO kD area (wholeL (bl (textD area cs))) (tornOf (bl (textD area cs))))]) h' → Q (some ⟨kl, 0, none⟩) 0 h') : C_wal_Open B (some ⟨kD, 0, none⟩) area h Q := by
  refine C_wal_Open.of ?_
  unfold S_wal_Open
  have hz := ok.size area
  have main : S_wal_Open_J1 B (some ⟨kD, 0, none⟩) area h Q := by
    unfold S_wal_Open_J1
    refine dread_wp E A ha (whole_wp (by omega) fun k11 a11 b11 h12 e12 => Fin.of (hQ k11 h12 ?_))
    have e : decide (((wholeL (bl (textD area cs)) : Nat) : Int) < (((textD area cs).size : Nat) : Int)) = tornOf (bl (textD area cs)) := by
      unfold tornOf
      rw [decide_eq_decide, bl_length]; omega
    rw [e] at e12
    exact E.made a11 b11 e12
  refine ⟨fun e => (by cases e), fun _ => ⟨fun _ => Fin.of main, fun e0 => ⟨fun _ => Fin.of main, fun e1 => absurd ha (fun hh => hh.elim e0 e1)⟩⟩⟩
theorem walappend_wp {s : ByteArray} {Q : Int → Heap → Prop} (E : Keep B h0 L h) (A : DAt L i kD cs k v r) (hj : L[j]? = some (some (kl, walO kD area sz torn))) (n1 : j ≠ i) (n2 : j ≠ i + 1) (R : CRow r v (cs.drop k)) (hk : k ≤ cs.length) (ok : DOk cs) (hl : cs.length ≤ 100000) (hs : s.size ≤ 1000000000) (hsz : sz ≤ 16384) (ha : area = 0 ∨ area = 1)
    (hL : 1024 < s.size → Q 3 h) (hT : s.size ≤ 1024 → torn = true → Q 9 h) (hF : s.size ≤ 1024 → torn = false → 16384 < (textD area cs).size + (closeL (bl s)).length → Q 6 h)
    (hQ : s.size ≤ 1024 → torn = false → (textD area cs).size + (closeL (bl s)).length ≤ 16384 → ∀ v' r' h', CRow r' v' ((cs ++ [Chg.mk area false (ba (closeL (bl s)))]).drop k) → Keep B h0 ((setD L i kD (cs ++ [Chg.mk area false (ba (closeL (bl s)))]) k v' r').set j (some (kl, walO kD area (sz + (closeL (bl s)).length) torn))) h' → Q 0 h') : C_wal_Log_Append B (some ⟨kl, 0, none⟩) s h Q := by
  refine C_wal_Log_Append.of ?_
  unfold S_wal_Log_Append
  refine ⟨fun e => (by cases e), fun _ => ⟨fun hgt => Fin.of (hL (by omega)), fun hle => ⟨_, rfl, torn, E.cellA j (m := 0) hj rfl, fun ht => Fin.of (hT (by omega) ht), fun ht => Fin.of ?_⟩⟩⟩
  unfold S_wal_Log_Append_J1
  have hcl : (closeL (bl s)).length = s.size + 6 := by rw [closeL_len (by rw [bl_length]; omega), bl_length]
  have hbs : (ba (closeL (bl s))).size = (closeL (bl s)).length := ba_size _
  refine wclose_wp (by omega) ⟨_, rfl, _, E.cell j hj rfl, _, rfl, area, E.cellA j (m := 0) hj rfl, ?_⟩
  refine dappend_wp E A R hk ok hl (by omega) (fun hn => absurd ha hn) (fun _ hf => ?_) (fun _ hf v' r' h' R' E' => ?_)
  · exact ⟨E.cell j hj rfl, E.cellA j (m := 0) hj rfl, fun e => (by cases e), fun _ => Fin.of (hF (by omega) ht (by omega))⟩
  · have hj' : (setD L i kD (cs ++ [Chg.mk area false (ba (closeL (bl s)))]) k v' r')[j]? = some (some (kl, walO kD area sz torn)) := by rw [setD_get n1 n2]; exact hj
    have hw : IntKind.wrap .i64 ((sz : Int) + (((ba (closeL (bl s))).size : Nat) : Int)) = ((sz + (closeL (bl s)).length : Nat) : Int) := by rw [hbs, w64 (by omega) (by omega)]; omega
    obtain ⟨es, E2⟩ := E'.storeA j 0 2 (.int .i64 ((sz + (closeL (bl s)).length : Nat) : Int)) hj' rfl
    refine ⟨E'.cell j hj' rfl, E'.cellA j (m := 0) hj' rfl, fun _ => ⟨_, rfl, sz, E'.cellA j (m := 0) hj' rfl, _, rfl, _, by rw [hw]; exact es, Fin.of (hQ (by omega) ht (by omega) v' r' _ R' E2)⟩, fun e => absurd rfl e⟩
theorem walforce_wp {Q : Heap → Prop} (E : Keep B h0 L h) (A : DAt L i kD cs k v r) (hj : L[j]? = some (some (kl, walO kD area sz torn))) (R : CRow r v (cs.drop k)) (hk : k ≤ cs.length) (ok : DOk cs) (hl : cs.length ≤ 100000)
    (hQ : ∀ h', Keep B h0 (setD L i kD cs cs.length (.slice none 0 0) none) h' → Q h') : C_wal_Log_Force B (some ⟨kl, 0, none⟩) h Q := by
  refine C_wal_Log_Force.of ?_
  unfold S_wal_Log_Force
  exact ⟨fun e => (by cases e), fun _ => ⟨_, rfl, _, E.cell j hj rfl, dsync_wp E A R hk ok hl fun h' E' => Fin.of (hQ h' E')⟩⟩
theorem walclear_wp {Q : Heap → Prop} (E : Keep B h0 L h) (A : DAt L i kD cs k v r) (hj : L[j]? = some (some (kl, walO kD area sz torn))) (n1 : j ≠ i) (n2 : j ≠ i + 1) (R : CRow r v (cs.drop k)) (hk : k ≤ cs.length) (hl : cs.length ≤ 100000) (ha : area = 0 ∨ area = 1)
    (hQ : ∀ v' r' h', CRow r' v' ((cs ++ [Chg.mk area true ByteArray.empty]).drop k) → Keep B h0 ((setD L i kD (cs ++ [Chg.mk area true ByteArray.empty]) k v' r').set j (some (kl, walO kD area 0 false))) h' → Q h') : C_wal_Log_Clear B (some ⟨kl, 0, none⟩) h Q := by
  refine C_wal_Log_Clear.of ?_
  unfold S_wal_Log_Clear
  refine ⟨fun e => (by cases e), fun _ => ⟨_, rfl, _, E.cell j hj rfl, _, rfl, area, E.cellA j (m := 0) hj rfl, dreset_wp E A R hk hl ha fun v' r' h' R' E' => ?_⟩⟩
  have hj' : (setD L i kD (cs ++ [Chg.mk area true ByteArray.empty]) k v' r')[j]? = some (some (kl, walO kD area sz torn)) := by rw [setD_get n1 n2]; exact hj
  obtain ⟨es, E2⟩ := E'.storeA j 0 2 (.int .i64 0) hj' rfl
  have il := (List.getElem?_eq_some_iff.1 hj').1
  obtain ⟨es2, E3⟩ := E2.storeA j 0 3 (.bool false) (List.getElem?_set_self il) rfl
  rw [List.set_set] at E3
  exact ⟨_, rfl, _, es, _, rfl, _, es2, Fin.of (hQ v' r' _ R' E3)⟩
theorem walsize_wp {Q : Int → Heap → Prop} (E : Keep B h0 L h) (hj : L[j]? = some (some (kl, walO kD area sz torn))) (hQ : Q ((sz : Nat) : Int) h) : C_wal_Log_Size B (some ⟨kl, 0, none⟩) h Q := by
  refine C_wal_Log_Size.of ?_
  unfold S_wal_Log_Size
  exact ⟨fun e => (by cases e), fun _ => ⟨_, rfl, _, E.cellA j (m := 0) hj rfl, Fin.of hQ⟩⟩
theorem walarea_wp {Q : Int → Heap → Prop} (E : Keep B h0 L h) (hj : L[j]? = some (some (kl, walO kD area sz torn))) (hQ : Q area h) : C_wal_Log_Area B (some ⟨kl, 0, none⟩) h Q := by
  refine C_wal_Log_Area.of ?_
  unfold S_wal_Log_Area
  exact ⟨fun e => (by cases e), fun _ => ⟨_, rfl, _, E.cellA j (m := 0) hj rfl, Fin.of hQ⟩⟩
def walF (k3 : Nat) : Value := Value.func (.func FN.wal_Log_All_1) #[] #[(Value.pointer (some ⟨k3, 0, none⟩))]
def walG (k3 kl kD : Nat) (area : Int) (sz : Nat) (torn : Bool) (cs : List Chg) (k : Nat) (v : Value) (h : Heap) : Prop :=
  h k3 = some (.vec TY.p_wal_Log [.plain (.pointer (some ⟨kl, 0, none⟩))] 1) ∧ h kl = some (walO kD area sz torn) ∧ h kD = some (dskO cs k v)
theorem walG_ins {k3 : Nat} : Ins (walG k3 kl kD area sz torn cs k v) := by
  rintro h b o hb ⟨g1, g2, g3⟩
  exact ⟨Heap.get_new hb g1, Heap.get_new hb g2, Heap.get_new hb g3⟩
theorem walall_wp {p : Option Addr} {Q : Value → Heap → Prop} (hQ : ∀ k, h k = none → B k = none → Q (walF k) (h.set k (.vec TY.p_wal_Log [.plain (.pointer p)] 1))) : C_wal_Log_All B p h Q := by
  refine C_wal_Log_All.of ?_
  unfold S_wal_Log_All
  intro k a1 b1 h4 e4
  subst e4
  exact Fin.of (hQ k a1 b1)
theorem walall_iter {k3 : Nat} (ha : area = 0 ∨ area = 1) (ok : DOk cs) : Iter PG B (walF k3) ((allL (bl (textD area cs))).map encS) (walG k3 kl kD area sz torn cs k v) := by
  refine ⟨_, _, _, rfl, TG.wal_Log_All_1, fun y J X h hy hG h0 hcall => ?_⟩
  have main : C_wal_Log_All_1 B y ⟨k3, 0, none⟩ h (fun h' => Fin B h' (fun h'' => J ((allL (bl (textD area cs))).map encS).length h'' ∨ X h'')) := by
    refine C_wal_Log_All_1.of ?_
    unfold S_wal_Log_All_1
    obtain ⟨g1, g2, g3⟩ := hG 0 h h0
    refine ⟨hy.oneW, fun ky ay by' h4 e4 => ?_⟩
    have ⟨ty, e4⟩ : ∃ t, h4 = h.set ky (.vec t [.plain y] 1) := ⟨_, e4⟩
    obtain ⟨gy, ly, fy⟩ := Heap.made ay e4
    have l1 := ly _ _ g1
    have l2 := ly _ _ g2
    have l3 := ly _ _ g3
    have hz := ok.size area
    refine ⟨_, cellH_vec l1 rfl, fun e => (by cases e), fun _ => ⟨_, cellH_vec l1 rfl, _, rfl, _, cellH_vec l2 rfl, _, cellH_vec l1 rfl, _, rfl, area, by rw [addr_more]; exact cellH_vec l2 rfl, dread0 l3 ha (wall_wp fun kc ac bc => ?_)⟩⟩
    have hky : kc ≠ ky := Heap.ne_of ac gy
    have it := wall_iter (B := B) (k3 := kc) (s := textD area cs) (by omega)
    refine ⟨(allL (bl (textD area cs))).map ba, wG kc (textD area cs), fun q h' => ∃ hu, hu ky = none ∧ hu kc = none ∧ h' = (hu.set ky (.vec ty [.plain y] 1)).set kc (.vec TY.string [.plain (.string (textD area cs))] 1) ∧ J q hu, by rw [List.map_map]; exact it, wG_ins, ?_, Fin.of ⟨h, ay, ?_, by rw [e4], h0⟩, ?_, ?_⟩
    · rintro q h' ⟨hu, n1, n2, rfl, hJ⟩
      exact Heap.set_same _ _ _
    · rw [e4, Heap.set_ne _ _ _ _ hky] at ac; exact ac
    · rintro q h17 s35 hg ⟨hu, n1, n2, rfl, hJ⟩
      rw [List.getElem?_map] at hg
      obtain ⟨l, hl, rfl⟩ := Option.map_eq_some_iff.1 hg
      have n2' : (hu.set ky (.vec ty [.plain y] 1)) kc = none := by rw [Heap.set_ne _ _ _ _ hky]; exact n2
      have gky : ((hu.set ky (.vec ty [.plain y] 1)).set kc (.vec TY.string [.plain (.string (textD area cs))] 1)) ky = some (.vec ty [.plain y] 1) := by
        rw [Heap.set_ne _ _ _ _ (Ne.symm hky), Heap.set_same]
      refine ⟨y, cellH_vec gky rfl, ?_⟩
      have hc := hcall q hu (encS l) (by rw [List.getElem?_map, hl]; rfl) hJ
      have h1 := hc.frame1 (ob := .vec ty [.plain y] 1) n1 by' (plainOne _ _)
      have h2 := h1.frame1 (ob := .vec TY.string [.plain (.string (textD area cs))] 1) n2' bc (plainOne _ _)
      refine CallV.mono ?_ h2
      rintro v h27 ⟨hx, x1, rfl, hz, z1, rfl, h29, t2, hor⟩
      have z2 : hz kc = none := by rw [Heap.set_ne _ _ _ _ hky] at x1; exact x1
      have lift : Ent B ((hz.set ky (.vec ty [.plain y] 1)).set kc (.vec TY.string [.plain (.string (textD area cs))] 1)) ((h29.set ky (.vec ty [.plain y] 1)).set kc (.vec TY.string [.plain (.string (textD area cs))] 1)) :=
        Ent.frame1 x1 bc (plainOne _ _) (Ent.frame1 z1 by' (plainOne _ _) t2)
      have w1 : h29 ky = none := t2.1 _ z1
      have w2 : h29 kc = none := t2.1 _ z2
      have drop : Ent B ((h29.set ky (.vec ty [.plain y] 1)).set kc (.vec TY.string [.plain (.string (textD area cs))] 1)) h29 := Ent.forget fun b o hb =>
        Heap.get_new (by rw [Heap.set_ne _ _ _ _ hky]; exact w2) (Heap.get_new w1 hb)
      rcases hor with ⟨rfl, hJ'⟩ | ⟨rfl, hX⟩
      · exact ⟨true, rfl, fun _ => ⟨_, lift, h29, w1, w2, rfl, hJ'⟩, fun e => by cases e⟩
      · exact ⟨false, rfl, fun e => (by cases e), fun _ => ⟨h29, lift.trans drop, Fin.of (.inr hX)⟩⟩
    · rintro h17 ⟨hu, n1, n2, rfl, hJ⟩
      have drop : Ent B ((hu.set ky (.vec ty [.plain y] 1)).set kc (.vec TY.string [.plain (.string (textD area cs))] 1)) hu := Ent.forget fun b o hb =>
        Heap.get_new (by rw [Heap.set_ne _ _ _ _ hky]; exact n2) (Heap.get_new n1 hb)
      refine ⟨hu, drop, Fin.of (.inl ?_)⟩
      rw [List.length_map] at hJ ⊢
      exact hJ
  exact Spec.mono main fun v h' q => q.2
end
end Go.Proofs.YtlehephbflgblaaGreat.H
namespace Go.Proofs.YtlehephbflgblaaGreat.H
open Go
set_option linter.unusedVariables false
set_option maxRecDepth 100000
theorem TK.slc_bytes : slcB PG TY.s_uint8 = some (TY.uint8, 1, 1) := by kernel_rfl
theorem TK.zero_byte : zeroB PG TY.uint8 = some [.int .u8 0] := by kernel_rfl
theorem TK.sl_bytes : slT PG TY.s_uint8 = true := by kernel_rfl
theorem TK.str : isStr PG TY.string = true := by kernel_rfl
section
variable {B : RO} {h : Heap}
theorem Addr.add_block (A : Addr) (i : Nat) : (A.add i).block = A.block := by unfold Addr.add; split <;> rfl
def stylO (bs : List UInt8) : AObj := .vec TY.stylus_Stylus [.own TY.uint8 1 (bs.map byteV)] 1
theorem natI_length {i : Int} (h : i ≤ 9223372036854775807) : (natI i).length ≤ 10 := by
  unfold natI; split
  · simp
  · exact natB_length (by omega)
theorem natsB_length : ∀ (l : List Int), (∀ n ∈ l, n ≤ 9223372036854775807) → (natsB l).length ≤ 10 * l.length
  | [], _ => by simp [natsB]
  | n :: l, h => by
    have h1 := natI_length (h n (by simp))
    have h2 := natsB_length l (fun m hm => h m (by simp [hm]))
    simp only [natsB, List.flatMap_cons, List.length_append, List.length_cons] at *
    omega
theorem natsB_one (n : Nat) : natsB [((n : Nat) : Int)] = natB n := by
  simp only [natsB, natI, List.flatMap_cons, List.flatMap_nil, List.append_nil]
  rw [if_neg (by omega)]; rfl
theorem natsB_take_succ (l : List Int) (k : Nat) (hk : k < l.length) : natsB (l.take (k + 1)) = natsB (l.take k) ++ natI l[k] := by
  unfold natsB; rw [List.take_succ_eq_append_getElem hk, List.flatMap_append, List.flatMap_cons, List.flatMap_nil, List.append_nil]
theorem stylus_byte {b : Nat} {bs : List UInt8} {x : Int} {u : UInt8} {K : Value → Heap → Prop} (hx : x = ((u.toNat : Nat) : Int)) (hb : h b = some (stylO bs)) (hbd : bs.length + 1 ≤ 1099511627776)
    (hK : ∀ a' n' c' h3 h4, storeH h3 ⟨b, 0, none⟩ (.slice a' n' c') = some h4 → Ent B h4 (h.set b (stylO (bs ++ [u]))) → K (.slice a' n' c') h3) :
    LdSl B h ⟨b, 0, none⟩ (fun a m c h1 => ∀ k, h1 k = none → B k = none → ∀ h2, h2 = Heap.set h1 k (.vec TY.uint8 (plains [.int .u8 x]) 1) → semH PG B (Builtin.append_ #[TY.s_uint8, TY.s_uint8] TY.s_uint8 #[.slice a m c, .slice (some ⟨k, 0, none⟩) 1 1]) h2 K) := by
  subst hx
  refine app_own (len := 1) (ys := [.int .u8 ((u.toNat : Nat) : Int)]) (xs := bs.map byteV) TK.slc_bytes TK.zero_byte rfl (by omega) (by omega) TK.sl_bytes hb rfl rfl (by simp [isOne]) (by simp; omega) ?_
  intro a' n' c' h3 h4 s1 s2
  refine hK a' n' c' h3 h4 s1 ?_
  simpa [stylO, byteV] using s2
theorem nat_wp {b c : Nat} {bs : List UInt8} {a : Option Addr} {ns : List Int} {Q : Heap → Prop} (hb : h b = some (stylO bs))
    (hr : ∀ i n, ns[i]? = some n → ∃ A, a = some A ∧ A.block ≠ b ∧ cellH B h (A.add i) = some (.int .i64 n))
    (hn : ∀ n ∈ ns, n ≤ 9223372036854775807) (hbd : bs.length + (ns.length + 1) * 20 ≤ 1099511627776)
    (hQ : Q (h.set b (stylO (bs ++ natsB ns)))) : C_stylus_Stylus_Nat B (some ⟨b, 0, none⟩) a ns.length c h Q := by
  refine C_stylus_Stylus_Nat.of ?_
  unfold S_stylus_Stylus_Nat
  have hset : ∀ k, natsB (ns.take k) = [] → True := fun _ _ => trivial
  refine ⟨fun i m h' => ∃ k : Nat, k ≤ ns.length ∧ i = k ∧ m = ns.length - k ∧ h' = h.set b (stylO (bs ++ natsB (ns.take k))), ns.length, Fin.of ⟨0, by omega, rfl, by omega, ?_⟩, ?_⟩
  · rw [List.take_zero, show natsB [] = [] from rfl, List.append_nil, Heap.set_self _ _ _ hb]
  · rintro i m h6 ⟨k, hk, rfl, rfl, rfl⟩
    refine ⟨fun hlt => ?_, fun hge => ?_⟩
    · have hk' : k < ns.length := by omega
      have hw : IntKind.wrap .i64 ((k : Int) + 1) = ((k + 1 : Nat) : Int) := by rw [w64 (by omega) (by omega)]; omega
      obtain ⟨A, e1, e2, e3⟩ := hr k ns[k] (List.getElem?_eq_getElem hk')
      have hle := natsB_length (ns.take k) (fun n hm => hn n (List.mem_of_mem_take hm))
      rw [List.length_take, Nat.min_eq_left hk] at hle
      have hnk := hn ns[k] (List.getElem_mem hk')
      refine ⟨A, e1, by omega, hlt, ns[k], ?_, fun hneg => ?_, fun hpos => ?_⟩
      · rw [cellH_set_ne (by rw [Addr.add_block]; exact e2)]
        simpa using e3
      · refine Fin.of ⟨ns.length - (k + 1), by omega, k + 1, by omega, hw, rfl, ?_⟩
        rw [natsB_take_succ ns k hk', natI, if_pos hneg, List.append_nil]
      · obtain ⟨v, hv⟩ := Int.eq_ofNat_of_zero_le (show 0 ≤ ns[k] by omega)
        have hnat : natI ns[k] = natB v := by rw [natI, if_neg hpos, hv]; rfl
        have hvl : (natB v).length ≤ 10 := natB_length (by omega)
        refine ⟨fun i m h' => ∃ (u : Nat) (pre : List UInt8), i = u ∧ u = m ∧ pre ++ natB u = natB v ∧ h' = h.set b (stylO (bs ++ natsB (ns.take k) ++ pre)), v, Fin.of ⟨v, [], hv, rfl, rfl, by rw [List.append_nil]⟩, ?_⟩
        rintro _ _ h35 ⟨u, pre, rfl, rfl, hpre, rfl⟩
        have hpl : pre.length ≤ 10 := by have := congrArg List.length hpre; simp only [List.length_append] at this; omega
        refine ⟨fun hge => ?_, fun hlt2 => ?_⟩
        · refine ⟨_, rfl, stylus_byte (bs := bs ++ natsB (ns.take k) ++ pre) (orByte u) (Heap.set_same _ _ _) (by simp only [List.length_append]; omega) ?_⟩
          intro a' n' c' h3 h4 s1 s2
          refine ⟨a', n', c', rfl, _, rfl, h4, s1, by decide, Fin.ent s2 (Fin.of ⟨u / 128, by omega, u / 128, pre ++ [UInt8.ofNat (u % 128 + 128)], shr7 u, rfl, ?_, ?_⟩)⟩
          · rw [← hpre, natB_hi (n := u) (by omega)]; simp
          · rw [Heap.set_set]; simp
        · refine Fin.of ?_
          unfold S_stylus_Stylus_Nat_J1
          refine ⟨_, rfl, stylus_byte (bs := bs ++ natsB (ns.take k) ++ pre) (lowByte (v := u) (by omega)) (Heap.set_same _ _ _) (by simp only [List.length_append]; omega) ?_⟩
          intro a' n' c' h3 h4 s1 s2
          refine ⟨a', n', c', rfl, _, rfl, h4, s1, Fin.ent s2 (Fin.of ⟨ns.length - (k + 1), by omega, k + 1, by omega, hw, rfl, ?_⟩)⟩
          rw [Heap.set_set, natsB_take_succ ns k hk', hnat, ← hpre, natB_lo (n := u) (by omega)]; simp
    · have : k = ns.length := by omega
      subst this
      refine Fin.of ?_
      rwa [List.take_length]
theorem raw_wp {b : Nat} {bs : List UInt8} {s : ByteArray} {Q : Heap → Prop} (hb : h b = some (stylO bs)) (hbd : bs.length + s.size ≤ 1099511627776)
    (hQ : Q (h.set b (stylO (bs ++ bl s)))) : C_stylus_Stylus_Raw B (some ⟨b, 0, none⟩) s h Q := by
  refine C_stylus_Stylus_Raw.of ?_
  unfold S_stylus_Stylus_Raw
  refine ⟨_, rfl, app_str TK.slc_bytes TK.zero_byte rfl (by omega) TK.str hb rfl (by simpa using hbd) ?_⟩
  intro a' n' c' h3 h4 s1 s2
  refine ⟨a', n', c', rfl, _, rfl, h4, s1, Fin.ent s2 (Fin.of ?_)⟩
  have : (fun c : UInt8 => Value.int .u8 c.toNat) = byteV := rfl
  simpa [stylO, bl, this] using hQ
theorem bytes_wp {b : Nat} {bs : List UInt8} {Q : ByteArray → Heap → Prop} (hb : h b = some (stylO bs)) (hQ : Q (ba bs) h) : C_stylus_Stylus_Bytes B (some ⟨b, 0, none⟩) h Q := by
  refine C_stylus_Stylus_Bytes.of ?_
  unfold S_stylus_Stylus_Bytes
  refine ⟨_, rfl, .inr ⟨_, _, _, _, _, _, rfl, hb, rfl, fun a m c h1 ho => ?_⟩⟩
  refine semH_convB (by kernel_rfl) ?_
  refine semH_bytesToString ho.row ⟨ba bs, rfl, Fin.ent (ho.back hb rfl) (Fin.of hQ)⟩
theorem text_wp {b c : Nat} {bs : List UInt8} {a : Option Addr} {ts : List ByteArray} {Q : Heap → Prop} (hb : h b = some (stylO bs))
    (hr : ∀ i s, ts[i]? = some s → ∃ A, a = some A ∧ A.block ≠ b ∧ cellH B h (A.add i) = some (.string s))
    (hbd : bs.length + (ts.map fun s => s.size + 50).sum ≤ 1099511627776)
    (hQ : Q (h.set b (stylO (bs ++ ts.flatMap fun s => natB s.size ++ bl s)))) : C_stylus_Stylus_Text B (some ⟨b, 0, none⟩) a ts.length c h Q := by
  refine C_stylus_Stylus_Text.of ?_
  unfold S_stylus_Stylus_Text
  have hlen : ∀ (l : List ByteArray), 50 * l.length ≤ (l.map fun s => s.size + 50).sum := by
    intro l; induction l with
    | nil => simp
    | cons s l ih => simp only [List.length_cons, List.map_cons, List.sum_cons]; omega
  have hsum : ∀ k (hk : k < ts.length), (ts.map fun s => s.size + 50).sum = ((ts.take k).map fun s => s.size + 50).sum + (ts[k].size + 50) + ((ts.drop (k + 1)).map fun s => s.size + 50).sum := by
    intro k hk
    have : ts = ts.take k ++ (ts[k] :: ts.drop (k + 1)) := by rw [← List.drop_eq_getElem_cons hk, List.take_append_drop]
    conv => lhs; rw [this]
    simp only [List.map_append, List.sum_append, List.map_cons, List.sum_cons]; omega
  have hfl : ∀ (l : List ByteArray), (∀ s ∈ l, s.size < 18446744073709551616) → (l.flatMap fun s => natB s.size ++ bl s).length ≤ (l.map fun s => s.size + 50).sum := by
    intro l; induction l with
    | nil => simp
    | cons s l ih =>
      intro hs
      have h1 := ih (fun x hx => hs x (by simp [hx]))
      have h2 := natB_length (hs s (by simp))
      simp only [List.flatMap_cons, List.length_append, List.map_cons, List.sum_cons, bl_length]; omega
  have hall : ∀ s ∈ ts, s.size < 1099511627777 := by
    intro s hs
    obtain ⟨k, hk, rfl⟩ := List.mem_iff_getElem.1 hs
    have := hsum k hk; omega
  refine ⟨fun i m h' => ∃ k : Nat, k ≤ ts.length ∧ i = k ∧ m = ts.length - k ∧ h' = h.set b (stylO (bs ++ (ts.take k).flatMap fun s => natB s.size ++ bl s)), ts.length, Fin.of ⟨0, by omega, rfl, by omega, ?_⟩, ?_⟩
  · rw [List.take_zero, List.flatMap_nil, List.append_nil, Heap.set_self _ _ _ hb]
  · rintro i m h6 ⟨k, hk, rfl, rfl, rfl⟩
    refine ⟨fun hlt => ?_, fun hge => ?_⟩
    · have hk' : k < ts.length := by omega
      have hl0 := hlen ts
      have hw : IntKind.wrap .i64 ((k : Int) + 1) = ((k + 1 : Nat) : Int) := by rw [w64 (by omega) (by omega)]; omega
      obtain ⟨A, e1, e2, e3⟩ := hr k ts[k] (List.getElem?_eq_getElem hk')
      have hle := hfl (ts.take k) (fun s hm => by have := hall s (List.mem_of_mem_take hm); omega)
      have hsk := hsum k hk'
      have hak := hall ts[k] (List.getElem_mem hk')
      refine ⟨A, e1, by omega, hlt, ts[k], ?_, fun k15 hk1 hk2 h16 e16 => ?_⟩
      · rw [cellH_set_ne (by rw [Addr.add_block]; exact e2)]
        simpa using e3
      · subst e16
        have hbk : b ≠ k15 := fun e => by rw [← e, Heap.set_same] at hk1; cases hk1
        have hb1 : ((h.set b (stylO (bs ++ (ts.take k).flatMap fun s => natB s.size ++ bl s))).set k15 (.vec TY.int (plains [.int .i64 ((ts[k].size : Nat) : Int)]) 1)) b = some (stylO (bs ++ (ts.take k).flatMap fun s => natB s.size ++ bl s)) := by
          rw [Heap.set_ne _ _ _ _ hbk, Heap.set_same]
        refine nat_wp (ns := [((ts[k].size : Nat) : Int)]) hb1 ?_ (by simp; omega) (by simp only [List.length_append, List.length_singleton]; omega) ?_
        · intro i n hi
          cases i with
          | zero =>
            cases hi
            exact ⟨_, rfl, Ne.symm hbk, cellH_vec (Heap.set_same _ _ _) rfl⟩
          | succ i => cases hi
        · have hnat : natsB [((ts[k].size : Nat) : Int)] = natB ts[k].size := natsB_one _
          have hnl := natB_length (n := ts[k].size) (by omega)
          refine raw_wp (Heap.set_same _ _ _) (by rw [hnat]; simp only [List.length_append]; omega) ?_
          refine Fin.ent (Ent.forget (h' := h.set b (stylO (bs ++ (ts.take (k + 1)).flatMap fun s => natB s.size ++ bl s))) ?_) (Fin.of ⟨ts.length - (k + 1), by omega, k + 1, by omega, hw, rfl, rfl⟩)
          intro c o hc
          rw [Heap.set_set]
          by_cases hcb : c = b
          · subst hcb
            rw [Heap.set_same] at hc ⊢
            rw [← hc, List.take_succ_eq_append_getElem hk', List.flatMap_append, hnat]
            simp
          · rw [Heap.set_ne _ _ _ _ hcb] at hc ⊢
            have hck : c ≠ k15 := fun e => by
              rw [e] at hc
              rw [Heap.set_ne _ _ _ _ (Ne.symm hbk)] at hk1
              rw [hk1] at hc; cases hc
            rw [Heap.set_ne _ _ _ _ hck, Heap.set_ne _ _ _ _ hcb]; exact hc
    · have : k = ts.length := by omega
      subst this
      refine Fin.of ?_
      rwa [List.take_length]
def readO (s : ByteArray) (bad : Bool) : AObj := .vec TY.stylus_Reader (plains [.string s, .bool bad]) 2
theorem of_wp {s : ByteArray} {Q : Option Addr → Heap → Prop} (hQ : ∀ k, h k = none → B k = none → Q (some ⟨k, 0, none⟩) (h.set k (readO s false))) : C_stylus_Of B s h Q := by
  refine C_stylus_Of.of ?_
  unfold S_stylus_Of
  intro k h1 h2 h3 e
  subst e
  exact Fin.of (hQ k h1 h2)
theorem styl_new {k : Nat} {hh : Heap} (e : hh k = some (.vec TY.stylus_Stylus (plains [Value.slice none 0 0]) 1)) : Ent B hh (hh.set k (stylO [])) :=
  Ent.close_nil (e := TY.uint8) (sz := 1) (i := 0) e rfl
theorem nat1_wp {b k c : Nat} {bs : List UInt8} {x : Int} {Q : Heap → Prop} (hb : h b = some (stylO bs)) (hk : h k = some (.vec TY.int (plains [.int .i64 x]) 1)) (hne : k ≠ b) (hx : x ≤ 9223372036854775807) (hbd : bs.length + 40 ≤ 1099511627776)
    (hQ : Q (h.set b (stylO (bs ++ natI x)))) : C_stylus_Stylus_Nat B (some ⟨b, 0, none⟩) (some ⟨k, 0, none⟩) 1 c h Q := by
  refine nat_wp (ns := [x]) hb ?_ (by simpa using hx) hbd (by simpa [natsB] using hQ)
  intro i n hi
  cases i with
  | zero => cases hi; exact ⟨_, rfl, hne, cellH_vec hk rfl⟩
  | succ i => cases hi
theorem text1_wp {b k c : Nat} {bs : List UInt8} {x : ByteArray} {Q : Heap → Prop} (hb : h b = some (stylO bs)) (hk : h k = some (.vec TY.string (plains [.string x]) 1)) (hne : k ≠ b) (hbd : bs.length + (x.size + 50) ≤ 1099511627776)
    (hQ : Q (h.set b (stylO (bs ++ (natB x.size ++ bl x))))) : C_stylus_Stylus_Text B (some ⟨b, 0, none⟩) (some ⟨k, 0, none⟩) 1 c h Q := by
  refine text_wp (ts := [x]) hb ?_ (by simpa using hbd) (by simpa using hQ)
  intro i n hi
  cases i with
  | zero => cases hi; exact ⟨_, rfl, hne, cellH_vec hk rfl⟩
  | succ i => cases hi
end
end Go.Proofs.YtlehephbflgblaaGreat.H
namespace Go.Proofs.YtlehephbflgblaaGreat.H
open Go
set_option linter.unusedVariables false
set_option maxRecDepth 100000
theorem TK.byteStr : byteStr PG TY.s_uint8 TY.string = true := by kernel_rfl
section
variable {B : RO} {h : Heap}
structure Item where
  kind : Int
  n : Int
  s : ByteArray
def Item.cells (x : Item) : List Value := [.int .i64 x.kind, .int .i64 x.n, .string x.s]
def Item.ok (x : Item) : Prop := -9223372036854775808 ≤ x.n ∧ x.n ≤ 9223372036854775807
def Item.bytes (x : Item) : List UInt8 :=
  if x.kind = 0 then natI x.n else if x.kind = 1 then natB (zig x.n) else if x.kind = 2 then bl x.s else if x.kind = 3 then natB x.s.size ++ bl x.s else []
end
end Go.Proofs.YtlehephbflgblaaGreat.H
namespace Go.Proofs.YtlehephbflgblaaGreat.H
open Go
set_option linter.unusedVariables false
set_option maxRecDepth 100000
section
variable {B : RO} {h : Heap}
def rdO (l : List UInt8) (bad : Bool) : AObj := readO (ba l) bad
theorem spoil_wp {b : Nat} {l : List UInt8} {bad : Bool} {Q : Heap → Prop} (hb : h b = some (rdO l bad)) (hQ : Q (h.set b (rdO [] true))) : C_stylus_Reader_Spoil B (some ⟨b, 0, none⟩) h Q := by
  refine C_stylus_Reader_Spoil.of ?_
  unfold S_stylus_Reader_Spoil
  refine ⟨(fun e => by cases e), fun _ => ⟨_, rfl, _, storeH_vec hb rfl, _, rfl, _, storeH_vec (Heap.set_same _ _ _) rfl, Fin.of ?_⟩⟩
  rw [Heap.set_set]
  exact hQ
def rRaw (k : Int) (l : List UInt8) (bad : Bool) : List UInt8 × List UInt8 × Bool := if bad = true ∨ k < 0 ∨ (l.length : Int) < k then ([], [], true) else (l.take k.toNat, l.drop k.toNat, false)
theorem rraw_wp {b : Nat} {l : List UInt8} {bad : Bool} {k : Int} {Q : ByteArray → Heap → Prop} (hb : h b = some (rdO l bad)) (hQ : Q (ba (rRaw k l bad).1) (h.set b (rdO (rRaw k l bad).2.1 (rRaw k l bad).2.2))) : C_stylus_Reader_Raw B (some ⟨b, 0, none⟩) k h Q := by
  refine C_stylus_Reader_Raw.of ?_
  unfold S_stylus_Reader_Raw
  refine ⟨(fun e => by cases e), fun _ => ⟨_, rfl, bad, cellH_vec hb rfl, fun e => ?_, fun e => ⟨fun hk => ?_, fun hk => ⟨_, rfl, _, cellH_vec hb rfl, fun hgt => ?_, fun hgt => Fin.of ?_⟩⟩⟩⟩
  · rw [rRaw, if_pos (.inl e)] at hQ
    exact spoil_wp hb (Fin.of hQ)
  · rw [rRaw, if_pos (.inr (.inl hk))] at hQ
    exact spoil_wp hb (Fin.of hQ)
  · rw [ba_size] at hgt
    rw [rRaw, if_pos (.inr (.inr (by omega)))] at hQ
    exact spoil_wp hb (Fin.of hQ)
  · rw [ba_size] at hgt
    rw [rRaw, if_neg (by rw [e]; simp; omega)] at hQ
    unfold S_stylus_Reader_Raw_J1
    refine ⟨_, rfl, _, cellH_vec hb rfl, by omega, by omega, by rw [ba_size]; omega, _, rfl, _, cellH_vec hb rfl, by omega, by rw [ba_size]; omega, by omega, _, rfl, _, storeH_vec hb rfl, Fin.of ?_⟩
    have e1 : (ba l).extract (Int.toNat 0) (Int.toNat k) = ba (l.take k.toNat) := extract_ba l _
    have e2 : (ba l).extract (Int.toNat k) (Int.toNat (((ba l).size : Nat) : Int)) = ba (l.drop k.toNat) := by
      rw [ba_size, Int.toNat_natCast]; exact extract_ba_end l _
    rw [e1, e2]
    rw [← e] at hQ
    exact hQ
noncomputable def rWord (l : List UInt8) (bad : Bool) : Nat × List UInt8 × Bool := if bad = true then (0, [], true) else match wordOf l with
  | some (n, r) => (n, r, false)
  | none => (0, [], true)
theorem rWord_bad (l : List UInt8) : rWord l true = (0, [], true) := by rw [rWord, if_pos rfl]
theorem rWord_none {l : List UInt8} (h : wordOf l = none) (bad : Bool) : rWord l bad = (0, [], true) := by
  cases bad
  · rw [rWord, if_neg (by simp), h]
  · exact rWord_bad l
theorem rWord_some {l r : List UInt8} {n : Nat} (h : wordOf l = some (n, r)) : rWord l false = (n, r, false) := by rw [rWord, if_neg (by simp), h]
theorem word_wp {b : Nat} {l : List UInt8} {bad : Bool} {Q : Int → Heap → Prop} (hb : h b = some (rdO l bad)) (hQ : Q ((rWord l bad).1 : Nat) (h.set b (rdO (rWord l bad).2.1 (rWord l bad).2.2))) : C_stylus_Reader_word B (some ⟨b, 0, none⟩) h Q := by
  refine C_stylus_Reader_word.of ?_
  unfold S_stylus_Reader_word
  cases bad with
  | true =>
    rw [rWord_bad] at hQ
    refine ⟨fun u i m h' => u = 0 ∧ i = 0 ∧ h' = h, 0, Fin.of ⟨rfl, rfl, rfl⟩, ?_⟩
    rintro _ _ m _ ⟨rfl, rfl, rfl⟩
    refine ⟨fun _ => rraw_wp hb ?_, fun hn => absurd hn (by decide)⟩
    have e : rRaw 1 l true = ([], [], true) := by rw [rRaw, if_pos (.inl rfl)]
    rw [e]
    refine ⟨fun _ => spoil_wp (Heap.set_same _ _ _) (Fin.of ?_), fun hn => absurd ba_nil hn⟩
    rw [Heap.set_set]; exact hQ
  | false =>
    refine ⟨fun u i m h' => ∃ (k acc : Nat) (rest : List UInt8), k ≤ 9 ∧ u = acc ∧ i = ((7 * k : Nat) : Int) ∧ m = 10 - k ∧ Half l k acc rest ∧ h' = h.set b (rdO rest false), 10, Fin.of ⟨0, 0, l, by omega, rfl, rfl, rfl, Half.zero l, (Heap.set_self _ _ _ hb).symm⟩, ?_⟩
    rintro _ _ _ _ ⟨k, acc, rest, hk, rfl, rfl, rfl, hH, rfl⟩
    have gs : (h.set b (rdO rest false)) b = some (rdO rest false) := Heap.set_same _ _ _
    refine ⟨fun _ => ?_, fun hn => by omega⟩
    have fail : wordOf l = none → ∀ h', (∃ l' b', h' = h.set b (rdO l' b')) → C_stylus_Reader_Spoil B (some ⟨b, 0, none⟩) h' (fun h17 => Fin B h17 (Q 0)) := by
      rintro hno h' ⟨l', b', rfl⟩
      rw [rWord_none hno] at hQ
      refine spoil_wp (Heap.set_same _ _ _) (Fin.of ?_)
      rw [Heap.set_set]; exact hQ
    cases rest with
    | nil =>
      refine rraw_wp gs ?_
      have e : rRaw 1 [] false = ([], [], true) := by rw [rRaw, if_pos (.inr (.inr (by simp)))]
      rw [e]
      exact ⟨fun _ => fail hH.empty _ ⟨_, _, by rw [Heap.set_set]⟩, fun hn => absurd ba_nil hn⟩
    | cons c t =>
      refine rraw_wp gs ?_
      have e : rRaw 1 (c :: t) false = ([c], t, false) := by rw [rRaw, if_neg (by simp; omega)]; rfl
      rw [e]
      have hx := c.toNat_lt
      have hb0 : byteAt (ba [c]) (Int.toNat 0) = ((c.toNat : Nat) : Int) := rfl
      have hsz : (ba [c]).size = 1 := rfl
      have hne : ¬ ba [c] = ByteArray.mk #[] := fun e => by have := ba_inj (e.trans ba_nil.symm); cases this
      refine ⟨fun e => absurd e hne, fun _ => ?_⟩
      simp only [Heap.set_set, hb0, hsz]
      have go : (0 < k → c.toNat ≠ 0) → (k = 9 → c.toNat ≤ 1) → S_stylus_Reader_word_J1 B (some ⟨b, 0, none⟩) ((acc : Nat) : Int) ((7 * k : Nat) : Int) (10 - k) (fun u i m h' => ∃ (k acc : Nat) (rest : List UInt8), k ≤ 9 ∧ u = acc ∧ i = ((7 * k : Nat) : Int) ∧ m = 10 - k ∧ Half l k acc rest ∧ h' = h.set b (rdO rest false)) (ba [c]) (h.set b (rdO t false)) Q := by
        intro q0 q9
        unfold S_stylus_Reader_word_J1
        simp only [hb0, hsz]
        refine ⟨by omega, by omega, by omega, by omega, by omega, fun hlt => Fin.of ?_, fun hge => Fin.of ?_⟩
        · have hlt' : c.toNat < 128 := by omega
          have hbd := hH.bound hk hlt' q9
          rw [orShift hH.1 hk hx (by rw [Nat.mod_eq_of_lt hlt']; exact hbd), Nat.mod_eq_of_lt hlt']
          rw [rWord_some (wordOf_some (hH.done hlt' q0) hbd)] at hQ
          exact hQ
        · have hge' : 128 ≤ c.toNat := by omega
          have hk8 : k < 9 := by
            by_cases h9 : k = 9
            · have := q9 h9; omega
            · omega
          have hsu := hH.succ hge'
          have hp : 2 ^ (7 * (k + 1)) ≤ 2 ^ 63 := Nat.pow_le_pow_right (by omega) (by omega)
          have := hsu.1
          rw [orShift hH.1 hk hx (by omega)]
          refine ⟨9 - k, by omega, k + 1, _, t, by omega, rfl, ?_, by omega, hsu, rfl⟩
          rw [w64 (by omega) (by omega)]; omega
      refine ⟨fun h63 => ⟨by omega, by omega, fun hgt => ?_, fun hle => ?_⟩, fun h63 => ?_⟩
      · have : k = 9 := by omega
        subst this
        exact fail (hH.great (by omega)) _ ⟨_, _, rfl⟩
      · refine ⟨fun hpos => ⟨by omega, by omega, fun h0 => fail (hH.zeroByte (by omega) (by omega)) _ ⟨_, _, rfl⟩, fun h0 => Fin.of (go (fun _ => by omega) (fun _ => by omega))⟩, fun hpos => Fin.of (go (fun _ => by omega) (fun _ => by omega))⟩
      · refine ⟨fun hpos => ⟨by omega, by omega, fun h0 => fail (hH.zeroByte (by omega) (by omega)) _ ⟨_, _, rfl⟩, fun h0 => Fin.of (go (fun _ => by omega) (fun _ => by omega))⟩, fun hpos => Fin.of (go (fun _ => by omega) (fun _ => by omega))⟩
noncomputable def rNat (most : Int) (l : List UInt8) (bad : Bool) : Nat × List UInt8 × Bool := if most < 0 ∨ most < ((rWord l bad).1 : Nat) then (0, [], true) else rWord l bad
theorem rnat_wp {b : Nat} {l : List UInt8} {bad : Bool} {most : Int} {Q : Int → Heap → Prop} (hm : most ≤ 9223372036854775807) (hb : h b = some (rdO l bad)) (hQ : Q ((rNat most l bad).1 : Nat) (h.set b (rdO (rNat most l bad).2.1 (rNat most l bad).2.2))) : C_stylus_Reader_Nat B (some ⟨b, 0, none⟩) most h Q := by
  refine C_stylus_Reader_Nat.of ?_
  unfold S_stylus_Reader_Nat
  refine word_wp hb ⟨fun hn => ?_, fun hn => ⟨fun hgt => ?_, fun hle => Fin.of ?_⟩⟩
  · rw [rNat, if_pos (.inl hn)] at hQ
    exact spoil_wp (Heap.set_same _ _ _) (Fin.of (by rw [Heap.set_set]; exact hQ))
  · have e : IntKind.wrap .u64 most = most := by rw [wu64]; omega
    rw [e] at hgt
    rw [rNat, if_pos (.inr hgt)] at hQ
    exact spoil_wp (Heap.set_same _ _ _) (Fin.of (by rw [Heap.set_set]; exact hQ))
  · have e : IntKind.wrap .u64 most = most := by rw [wu64]; omega
    rw [e] at hle
    rw [rNat, if_neg (by omega)] at hQ
    rw [w64 (by omega) (by omega)]
    exact hQ
theorem rbad_wp {b : Nat} {l : List UInt8} {bad : Bool} {Q : Bool → Heap → Prop} (hb : h b = some (rdO l bad)) (hQ : Q bad h) : C_stylus_Reader_Bad B (some ⟨b, 0, none⟩) h Q := by
  refine C_stylus_Reader_Bad.of ?_
  unfold S_stylus_Reader_Bad
  exact ⟨(fun e => by cases e), fun _ => ⟨_, rfl, bad, cellH_vec hb rfl, Fin.of hQ⟩⟩
theorem rleft_wp {b : Nat} {l : List UInt8} {bad : Bool} {Q : Int → Heap → Prop} (hb : h b = some (rdO l bad)) (hQ : Q (l.length : Nat) h) : C_stylus_Reader_Left B (some ⟨b, 0, none⟩) h Q := by
  refine C_stylus_Reader_Left.of ?_
  unfold S_stylus_Reader_Left
  refine ⟨(fun e => by cases e), fun _ => ⟨_, rfl, ba l, cellH_vec hb rfl, Fin.of ?_⟩⟩
  rw [ba_size]; exact hQ
end
end Go.Proofs.YtlehephbflgblaaGreat.H
namespace Go.Proofs.YtlehephbflgblaaGreat.H
open Go
set_option linter.unusedVariables false
set_option maxRecDepth 100000
section
variable {B : RO} {h : Heap}
noncomputable def rText (most : Int) (l : List UInt8) (bad : Bool) : List UInt8 × List UInt8 × Bool := rRaw ((rNat most l bad).1 : Nat) (rNat most l bad).2.1 (rNat most l bad).2.2
theorem rtext_wp {b : Nat} {l : List UInt8} {bad : Bool} {most : Int} {Q : ByteArray → Heap → Prop} (hm : most ≤ 9223372036854775807) (hb : h b = some (rdO l bad)) (hQ : Q (ba (rText most l bad).1) (h.set b (rdO (rText most l bad).2.1 (rText most l bad).2.2))) : C_stylus_Reader_Text B (some ⟨b, 0, none⟩) most h Q := by
  refine C_stylus_Reader_Text.of ?_
  unfold S_stylus_Reader_Text
  refine rnat_wp hm hb (rraw_wp (Heap.set_same _ _ _) (Fin.of ?_))
  rw [Heap.set_set]
  exact hQ
theorem rof_wp {l : List UInt8} {s : ByteArray} {Q : Option Addr → Heap → Prop} (hs : s = ba l) (hQ : ∀ k, h k = none → B k = none → Q (some ⟨k, 0, none⟩) (h.set k (rdO l false))) : C_stylus_Of B s h Q := by
  subst hs
  exact of_wp hQ
theorem rRaw_ok (x r : List UInt8) : rRaw (x.length : Nat) (x ++ r) false = (x, r, false) := by
  rw [rRaw, if_neg (by simp; omega)]
  simp
end
end Go.Proofs.YtlehephbflgblaaGreat.H
namespace Go.Proofs.YtlehephbflgblaaGreat.H
open Go Go.RowKit
set_option linter.unusedVariables false
set_option maxRecDepth 100000
theorem natB_0 : natB 0 = [0] := by rw [natB_lo (by omega)]; rfl
theorem natB_1 : natB 1 = [1] := by rw [natB_lo (by omega)]; rfl
theorem natI_nat (n : Nat) : natI (n : Int) = natB n := by rw [natI, if_neg (by omega), Int.toNat_natCast]
noncomputable def natT (most : Nat) (l : List UInt8) : Option (Nat × List UInt8) :=
  match wordOf l with
  | none => none
  | some (n, r) => if most < n then none else some (n, r)
theorem natT_some {most n : Nat} {l r : List UInt8} (h : natT most l = some (n, r)) : wordOf l = some (n, r) ∧ n ≤ most := by
  unfold natT at h
  cases hw : wordOf l with
  | none => rw [hw] at h; cases h
  | some p =>
    obtain ⟨n', r'⟩ := p
    rw [hw] at h
    simp only at h
    split at h
    · cases h
    · cases h; exact ⟨rfl, by omega⟩
theorem natT_eq {most n : Nat} {l r : List UInt8} (h : natT most l = some (n, r)) : l = natB n ++ r ∧ n ≤ most := ⟨(wordOf_eq (natT_some h).1).1, (natT_some h).2⟩
theorem natT_ok {most n : Nat} (hn : n ≤ most) (hm : most < 18446744073709551616) (r : List UInt8) : natT most (natB n ++ r) = some (n, r) := by
  rw [natT, wordOf_some rfl (by omega)]; simp; omega
theorem rNat_none {most : Nat} {l : List UInt8} (h : natT most l = none) : rNat most l false = (0, [], true) := by
  unfold natT at h
  cases hw : wordOf l with
  | none => rw [rNat, rWord_none hw]; simp
  | some p =>
    obtain ⟨n', r'⟩ := p
    rw [hw] at h
    simp only at h
    split at h
    · rw [rNat, rWord_some hw]; simp; omega
    · cases h
theorem rNat_some {most n : Nat} {l r : List UInt8} (h : natT most l = some (n, r)) : rNat most l false = (n, r, false) := by
  obtain ⟨hw, hn⟩ := natT_some h
  rw [rNat, rWord_some hw, if_neg (by simp only; omega)]
theorem rNat_bad (most : Int) : rNat most [] true = (0, [], true) := by
  rw [rNat, rWord_bad]; simp
theorem rText_none {most : Nat} {l : List UInt8} (h : natT most l = none) : rText most l false = ([], [], true) := by
  rw [rText, rNat_none h]; simp [rRaw]
theorem rText_short {most n : Nat} {l r : List UInt8} (h : natT most l = some (n, r)) (hs : r.length < n) : rText most l false = ([], [], true) := by
  rw [rText, rNat_some h, rRaw, if_pos (by simp only; omega)]
theorem rText_some {most n : Nat} {l r : List UInt8} (h : natT most l = some (n, r)) (hs : ¬ r.length < n) : rText most l false = (r.take n, r.drop n, false) := by
  rw [rText, rNat_some h, rRaw, if_neg (by simp only; simp; omega)]; simp
end Go.Proofs.YtlehephbflgblaaGreat.H
namespace Go.Proofs.YtlehephbflgblaaGreat.H
open Go Go.RowKit
set_option linter.unusedVariables false
set_option maxRecDepth 100000
noncomputable def firstL : List UInt8 → Option (Nat × List UInt8)
  | [] => none
  | b :: t => if b = 0 then (match natT 1099511627776 t with
    | none => none
    | some (n, r) => if n = 0 then none else some (n, r)) else none
theorem firstL_b {b : UInt8} {t : List UInt8} (h : b ≠ 0) : firstL (b :: t) = none := by simp [firstL, h]
theorem firstL_n {t : List UInt8} (h : natT 1099511627776 t = none) : firstL (0 :: t) = none := by simp [firstL, h]
theorem firstL_z {t r : List UInt8} (h : natT 1099511627776 t = some (0, r)) : firstL (0 :: t) = none := by simp [firstL, h]
theorem firstL_s {t r : List UInt8} {n : Nat} (h : natT 1099511627776 t = some (n, r)) (hn : n ≠ 0) : firstL (0 :: t) = some (n, r) := by simp [firstL, h, hn]
def loadsL : List (List UInt8) → List (List UInt8)
  | [] => []
  | [] :: _ => []
  | (b :: r) :: t => if b = 1 then r :: loadsL t else []
theorem loadsL_nil (t : List (List UInt8)) : loadsL ([] :: t) = [] := rfl
theorem loadsL_no {b : UInt8} {r : List UInt8} {t : List (List UInt8)} (h : b ≠ 1) : loadsL ((b :: r) :: t) = [] := by simp [loadsL, h]
theorem loadsL_yes {r : List UInt8} {t : List (List UInt8)} : loadsL ((1 :: r) :: t) = r :: loadsL t := by simp [loadsL]
structure TDL where
  e : Nat
  im : List UInt8
  ls : List (List UInt8)
noncomputable def toldR : List (List UInt8) → TDL
  | [] => ⟨0, [], []⟩
  | l :: t => match firstL l with
    | none => ⟨0, [], []⟩
    | some (n, r) => ⟨n, r, loadsL t⟩
theorem toldR_nil : toldR [] = ⟨0, [], []⟩ := rfl
theorem toldR_none {l : List UInt8} {t : List (List UInt8)} (h : firstL l = none) : toldR (l :: t) = ⟨0, [], []⟩ := by rw [toldR, h]
theorem toldR_some {l r : List UInt8} {t : List (List UInt8)} {n : Nat} (h : firstL l = some (n, r)) : toldR (l :: t) = ⟨n, r, loadsL t⟩ := by rw [toldR, h]
noncomputable def toldL (b : List UInt8) : TDL := toldR (allL b)
noncomputable def foundL (a b : List UInt8) : TDL := if (toldL a).e < (toldL b).e then toldL b else toldL a
noncomputable def areaL (a b : List UInt8) : Int := if (toldL a).e < (toldL b).e then 1 else 0
def imgL (n : Nat) (im : List UInt8) : List UInt8 := 0 :: (natB n ++ im)
theorem firstL_img {n : Nat} (h0 : n ≠ 0) (h : n ≤ 1099511627776) (im : List UInt8) : firstL (imgL n im) = some (n, im) := firstL_s (natT_ok h (by omega) im) h0
theorem loadsL_ones : ∀ (ls : List (List UInt8)), loadsL (ls.map (1 :: ·)) = ls
  | [] => rfl
  | l :: t => by rw [List.map_cons, loadsL_yes, loadsL_ones t]
theorem firstL_le {l r : List UInt8} {n : Nat} (h : firstL l = some (n, r)) : n ≠ 0 ∧ n ≤ 1099511627776 ∧ r.length ≤ l.length := by
  cases l with
  | nil => cases h
  | cons b t =>
    by_cases hb : b = 0
    · subst hb
      cases ht : natT 1099511627776 t with
      | none => rw [firstL_n ht] at h; cases h
      | some p =>
        obtain ⟨m, q⟩ := p
        by_cases hm : m = 0
        · subst hm; rw [firstL_z ht] at h; cases h
        · rw [firstL_s ht hm] at h
          cases h
          obtain ⟨e, h2⟩ := natT_eq ht
          exact ⟨hm, h2, by rw [e]; simp; omega⟩
    · rw [firstL_b hb] at h; cases h
theorem toldR_le (ls : List (List UInt8)) : (toldR ls).e ≤ 1099511627776 := by
  cases ls with
  | nil => simp [toldR_nil]
  | cons l t =>
    cases h : firstL l with
    | none => rw [toldR_none h]; simp
    | some p => obtain ⟨n, r⟩ := p; rw [toldR_some h]; exact (firstL_le h).2.1
theorem loadsL_len : ∀ (ls : List (List UInt8)), (loadsL ls).length ≤ ls.length
  | [] => Nat.le_refl _
  | [] :: t => by rw [loadsL_nil]; simp
  | (b :: r) :: t => by
    by_cases hb : b = 1
    · subst hb; rw [loadsL_yes]; simp; exact loadsL_len t
    · rw [loadsL_no hb]; simp
end Go.Proofs.YtlehephbflgblaaGreat.H
namespace Go.Proofs.YtlehephbflgblaaGreat.H
open Go Go.RowKit
set_option linter.unusedVariables false
set_option maxRecDepth 100000
def foundO (im : List UInt8) (v : Value) : AObj := .vec TY.vault_Found (plains [.string (ba im), v]) 2
def vltO (kD kl : Nat) (e : Nat) (ready : Bool) : AObj := .vec TY.vault_Vault (plains [.pointer (some ⟨kD, 0, none⟩), .pointer (some ⟨kl, 0, none⟩), .int .i64 (e : Nat), .bool ready]) 4
theorem strC_one (l : List UInt8) : ∀ y ∈ strC l, isOne y = true := fun y hy => by simp [strC] at hy; subst hy; rfl
theorem allL_small (b : List UInt8) : (allL b).length ≤ b.length := by
  have h1 := wholeL_le b
  have h2 := rowL_len (allL_spec b).1
  have h3 : ∀ ls : List (List UInt8), ls.length ≤ (ls.map fun l => l.length + 6).sum := fun ls => by
    induction ls with
    | nil => simp
    | cons l t ih => simp only [List.map_cons, List.sum_cons, List.length_cons]; omega
  have := h3 (allL b)
  unfold wholeL at h1
  omega
section
variable {B : RO} {h0 h h' : Heap} {L : List (Option (Nat × AObj))} {r : Option (Nat × AObj)} {i j kD kl k sz : Nat} {cs : List Chg} {v : Value} {area : Int} {torn : Bool}
theorem first_wp {l : List UInt8} {Q : Int → ByteArray → Bool → Heap → Prop} (hN : firstL l = none → ∀ e im, Q e im false h) (hS : ∀ n r, firstL l = some (n, r) → Q (n : Nat) (ba r) true h) : C_vault_first B (ba l) h Q := by
  refine C_vault_first.of ?_
  unfold S_vault_first
  refine rof_wp rfl fun k6 a6 b6 => ?_
  have E := (Keep.nil B h).new (o := rdO l false) a6 b6
  have back : ∀ {h1 : Heap} {e : Int} {im : ByteArray} {b : Bool}, Keep B h [] h1 → Q e im b h → Fin B h1 (Q e im b) := fun E q => Fin.ent E.back (Fin.of q)
  refine rnat_wp (by decide) (E.at 0 rfl) ?_
  have E1 := E.put (o' := rdO (rNat 1 l false).2.1 (rNat 1 l false).2.2) 0 rfl
  refine rnat_wp (by decide) (E1.at 0 rfl) ?_
  have E2 := E1.put (o' := rdO (rNat 1099511627776 (rNat 1 l false).2.1 (rNat 1 l false).2.2).2.1 (rNat 1099511627776 (rNat 1 l false).2.1 (rNat 1 l false).2.2).2.2) 0 rfl
  refine rleft_wp (E2.at 0 rfl) (rraw_wp (E2.at 0 rfl) ?_)
  have E3 := E2.put (o' := rdO (rRaw ((rNat 1099511627776 (rNat 1 l false).2.1 (rNat 1 l false).2.2).2.1.length : Nat) (rNat 1099511627776 (rNat 1 l false).2.1 (rNat 1 l false).2.2).2.1 (rNat 1099511627776 (rNat 1 l false).2.1 (rNat 1 l false).2.2).2.2).2.1 (rRaw ((rNat 1099511627776 (rNat 1 l false).2.1 (rNat 1 l false).2.2).2.1.length : Nat) (rNat 1099511627776 (rNat 1 l false).2.1 (rNat 1 l false).2.2).2.1 (rNat 1099511627776 (rNat 1 l false).2.1 (rNat 1 l false).2.2).2.2).2.2) 0 rfl
  refine rbad_wp (E3.at 0 rfl) ?_
  have E4 := E3.take 0
  clear E E1 E2 E3
  have rb : rRaw ((([] : List UInt8).length : Nat) : Int) [] true = ([], [], true) := by simp [rRaw]
  cases t0 : natT 1 l with
  | none =>
    have f0 : rNat 1 l false = (0, [], true) := rNat_none t0
    have f1 : rNat 1099511627776 ([] : List UInt8) true = (0, [], true) := rNat_bad _
    have hf : firstL l = none := by
      cases l with
      | nil => rfl
      | cons b t =>
        refine firstL_b fun e => ?_
        subst e
        have := natT_ok (most := 1) (n := 0) (by omega) (by omega) t
        rw [natB_0] at this
        have e2 : natT 1 (0 :: t) = some (0, t) := this
        rw [e2] at t0; cases t0
    simp only [f0, f1, rb] at E4 ⊢
    exact ⟨fun _ => back E4 (hN hf _ _), fun e => by cases e⟩
  | some p =>
    obtain ⟨kx, r1⟩ := p
    have f0 : rNat 1 l false = (kx, r1, false) := rNat_some t0
    obtain ⟨el, hk⟩ := natT_eq t0
    cases t1 : natT 1099511627776 r1 with
    | none =>
      have f1 : rNat 1099511627776 r1 false = (0, [], true) := rNat_none t1
      have hf : firstL l = none := by
        rw [el]
        by_cases h1 : kx = 1
        · subst h1; rw [natB_1]; exact firstL_b (by decide)
        · have : kx = 0 := by omega
          subst this; rw [natB_0]; exact firstL_n t1
      simp only [f0, f1, rb] at E4 ⊢
      exact ⟨fun _ => back E4 (hN hf _ _), fun e => by cases e⟩
    | some p =>
      obtain ⟨n, r2⟩ := p
      have f1 : rNat 1099511627776 r1 false = (n, r2, false) := rNat_some t1
      have f2 : rRaw ((r2.length : Nat) : Int) r2 false = (r2, [], false) := by
        have := rRaw_ok r2 []
        rwa [List.append_nil] at this
      simp only [f0, f1, f2] at E4 ⊢
      refine ⟨fun e => (by cases e), fun _ => ⟨fun hk0 => ?_, fun hk0 => ?_⟩⟩
      · have : kx = 0 := by omega
        subst this
        rw [natB_0] at el
        by_cases hn : n = 0
        · subst hn
          have hf : firstL l = none := by rw [el]; exact firstL_z t1
          rw [decide_eq_false (by omega)]
          exact back E4 (hN hf _ _)
        · have hf : firstL l = some (n, r2) := by rw [el]; exact firstL_s t1 hn
          rw [decide_eq_true (by omega)]
          exact back E4 (hS n r2 hf)
      · have : kx = 1 := by omega
        subst this
        rw [natB_1] at el
        have hf : firstL l = none := by rw [el]; exact firstL_b (by decide)
        exact back E4 (hN hf _ _)
theorem look_wp {Q : Int → ByteArray → Option Addr → Nat → Nat → Heap → Prop} (E : Keep B h0 L h) (A : DAt L i kD cs k v r) (hj : L[j]? = some (some (kl, walO kD area sz torn))) (ok : DOk cs) (ha : area = 0 ∨ area = 1)
    (hQ : ∀ a c r' h', SRow r' (.slice a (toldL (bl (textD area cs))).ls.length c) (toldL (bl (textD area cs))).ls → Keep B h0 (L ++ [r']) h' → Q ((toldL (bl (textD area cs))).e : Nat) (ba (toldL (bl (textD area cs))).im) a (toldL (bl (textD area cs))).ls.length c h') : C_vault_look B (some ⟨kl, 0, none⟩) h Q := by
  refine C_vault_look.of ?_
  unfold S_vault_look
  intro k7 a7 b7 h8 e8 k9 a9 b9 h10 e10 k11 a11 b11 h12 e12 k13 a13 b13 h14 e14 k15 a15 b15 h16 e16
  have E1 := ((((E.start.nM a7 b7 e8).nM a9 b9 e10).nM a11 b11 e12).nM a13 b13 e14).nM a15 b15 e16
  refine ⟨_, storeH_vec (E1.gM 3 rfl) rfl, ?_⟩
  have E2 := E1.pM (o' := .vec TY.int (plains [.int .i64 0]) 1) 3 rfl
  refine ⟨_, storeH_vec (E2.gM 4 rfl) rfl, ?_⟩
  have E3 := E2.pM (o' := .vec TY.int (plains [.int .i64 0]) 1) 4 rfl
  refine walall_wp fun kc ac bc => ?_
  have E4 := E3.nM (o := .vec TY.p_wal_Log [.plain (.pointer (some ⟨kl, 0, none⟩))] 1) ac bc rfl
  have it := walall_iter (B := B) (kl := kl) (kD := kD) (sz := sz) (torn := torn) (k := k) (v := v) (k3 := kc) ha ok
  have hsm := allL_small (bl (textD area cs))
  have hts := ok.size area
  rw [bl_length] at hsm
  unfold toldL at hQ
  generalize allL (bl (textD area cs)) = rs at it hsm hQ
  have fin : ∀ {h1 : Heap} {ep : Nat} {im : List UInt8} {acc : List (List UInt8)} {a : Option Addr} {c qn : Nat} {r' : Option (Nat × AObj)}, toldR rs = ⟨ep, im, acc⟩ → SRow r' (.slice a acc.length c) acc → Keep B h0 (L ++ [some (k7, .vec TY.int (plains [.int .i64 0]) 1), some (k9, foundO [] (.slice none 0 0)), some (k11, foundO im (.slice a acc.length c)), some (k13, .vec TY.int (plains [.int .i64 (ep : Nat)]) 1), some (k15, .vec TY.int (plains [.int .i64 (qn : Nat)]) 1), r', some (kc, .vec TY.p_wal_Log [.plain (.pointer (some ⟨kl, 0, none⟩))] 1)]) h1 →
      ∃ i66 : Int, cellH B h1 ⟨k13, 0, none⟩ = some (Value.int .i64 (i66)) ∧
      ∃ s68 : ByteArray, ∃ a69 : Option Addr, ∃ n70 : Nat, ∃ c71 : Nat, CellsAt B h1 ⟨k11, 0, none⟩ 0 [(Value.string s68), (Value.slice a69 n70 c71)] ∧
      ∃ h73 : Heap, storeH h1 ⟨k7, 0, none⟩ (Value.int .i64 (i66)) = some h73 ∧
      cellH B h73 ⟨k13, 0, none⟩ = some (Value.int .i64 (i66)) ∧ CellsAt B h73 ⟨k11, 0, none⟩ 0 [(Value.string s68), (Value.slice a69 n70 c71)] ∧
      ∃ h76 : Heap, StoresAt ⟨k9, 0, none⟩ h73 0 [(Value.string s68), (Value.slice a69 n70 c71)] h76 ∧
      ∃ i77 : Int, cellH B h76 ⟨k7, 0, none⟩ = some (Value.int .i64 (i77)) ∧ ∃ s78 : ByteArray, ∃ a79 : Option Addr, ∃ n80 : Nat, ∃ c81 : Nat, CellsAt B h76 ⟨k9, 0, none⟩ 0 [(Value.string s78), (Value.slice a79 n80 c81)] ∧ Fin B h76 (Q (i77) s78 a79 n80 c81) := fun {h1 ep im acc a c qn r'} ht R E => by
    refine ⟨_, E.cM 3 rfl (i := 0) rfl, _, _, _, _, ⟨E.cM 2 rfl (i := 0) rfl, E.cM 2 rfl (i := 1) rfl, trivial⟩, _, storeH_vec (E.gM 0 rfl) rfl, ?_⟩
    have F1 := E.pM (o' := .vec TY.int (plains [.int .i64 (ep : Nat)]) 1) 0 rfl
    refine ⟨F1.cM 3 rfl (i := 0) rfl, ⟨F1.cM 2 rfl (i := 0) rfl, F1.cM 2 rfl (i := 1) rfl, trivial⟩, _, stores_whole (F1.gM 1 rfl) rfl (by simp) (by simp [isOne]) (by simp), ?_⟩
    have F2 := F1.pM (o' := foundO im (.slice a acc.length c)) 1 rfl
    refine ⟨_, F2.cM 0 rfl (i := 0) rfl, _, _, _, _, ⟨F2.cM 1 rfl (i := 0) rfl, F2.cM 1 rfl (i := 1) rfl, trivial⟩, Fin.of ?_⟩
    rw [ht] at hQ
    exact hQ a c r' _ R (F2.sM [5] (by decide))
  refine ⟨rs.map ba, walG kc kl kD area sz torn cs k v, fun q h' => ∃ (ep : Nat) (im : List UInt8) (acc : List (List UInt8)) (a : Option Addr) (c : Nat) (r' : Option (Nat × AObj)), (q = 0 → ep = 0 ∧ im = [] ∧ acc = []) ∧ (1 ≤ q → toldR rs = ⟨ep, im, acc ++ loadsL (rs.drop q)⟩) ∧ acc.length ≤ q ∧ SRow r' (.slice a acc.length c) acc ∧ Keep B h0 (L ++ [some (k7, .vec TY.int (plains [.int .i64 0]) 1), some (k9, foundO [] (.slice none 0 0)), some (k11, foundO im (.slice a acc.length c)), some (k13, .vec TY.int (plains [.int .i64 (ep : Nat)]) 1), some (k15, .vec TY.int (plains [.int .i64 (q : Nat)]) 1), r', some (kc, .vec TY.p_wal_Log [.plain (.pointer (some ⟨kl, 0, none⟩))] 1)]) h', by rw [List.map_map]; exact it, walG_ins, ?_, Fin.of ⟨0, [], [], none, 0, none, fun _ => ⟨rfl, rfl, rfl⟩, fun e => by omega, by simp, Row.nil _ _, ?_⟩, ?_, ?_⟩
  · rintro q h' ⟨ep, im, acc, a, c, r', _, _, _, _, E⟩
    exact ⟨E.gM 6 rfl, E.at j (up_app _ hj), E.at i (up_app _ A.p)⟩
  · have E5 : Keep B h0 (L ++ [some (k7, .vec TY.int (plains [.int .i64 0]) 1), some (k9, foundO [] (.slice none 0 0)), some (k11, foundO [] (.slice none 0 0)), some (k13, .vec TY.int (plains [.int .i64 0]) 1), some (k15, .vec TY.int (plains [.int .i64 0]) 1), some (kc, .vec TY.p_wal_Log [.plain (.pointer (some ⟨kl, 0, none⟩))] 1)]) _ := E4
    exact E5.sM [0, 1, 2, 3, 4, 6, 5] (by decide)
  · clear E E1 E2 E3 E4 e8 e10 e12 e14 e16
    rintro q h23 s21 hg ⟨ep, im, acc, a, c, r', i0, i1, hal, R, E⟩
    rw [List.getElem?_map] at hg
    obtain ⟨l, hl, rfl⟩ := Option.map_eq_some_iff.1 hg
    obtain ⟨hq, hx⟩ := List.getElem?_eq_some_iff.1 hl
    have hw : IntKind.wrap .i64 ((q : Int) + 1) = ((q + 1 : Nat) : Int) := by rw [w64 (by omega) (by omega)]; omega
    refine ⟨_, E.cM 4 rfl (i := 0) rfl, _, storeH_vec (E.gM 4 rfl) rfl, ?_⟩
    rw [hw]
    have E1 := E.pM (o' := .vec TY.int (plains [.int .i64 ((q + 1 : Nat) : Int)]) 1) 4 rfl
    have hdr : rs.drop q = l :: rs.drop (q + 1) := by rw [List.drop_eq_getElem_cons hq, hx]
    refine ⟨_, E1.cM 4 rfl (i := 0) rfl, fun h1 => ?_, fun h1 => ?_⟩
    · have : q = 0 := by omega
      subst this
      obtain ⟨rfl, rfl, rfl⟩ := i0 rfl
      rw [List.drop_zero] at hdr
      refine first_wp (fun hf e im => ⟨fun e => (by cases e), fun _ => ?_⟩) fun n r2 hf => ⟨fun _ => ?_, fun e => by cases e⟩
      · have E1' : Keep B h0 (L ++ [some (k7, .vec TY.int (plains [.int .i64 0]) 1), some (k9, foundO [] (.slice none 0 0))]) _ := E1.tM 2
        refine ⟨_, storeH_vec (E1'.gM 0 rfl) rfl, ?_⟩
        have F1 := E1'.pM (o' := .vec TY.int (plains [.int .i64 0]) 1) 0 rfl
        refine ⟨_, stores_whole (F1.gM 1 rfl) rfl (by simp) (by simp [isOne]) (by simp), ?_⟩
        have F2 := F1.pM (o' := foundO [] (.slice none 0 0)) 1 rfl
        refine ⟨_, F2.cM 0 rfl (i := 0) rfl, _, _, _, _, ⟨F2.cM 1 rfl (i := 0) rfl, F2.cM 1 rfl (i := 1) rfl, trivial⟩, Fin.of ?_⟩
        rw [hdr, toldR_none hf] at hQ
        exact hQ none 0 none _ (Row.nil _ _) F2.zM.gap
      · refine ⟨_, storeH_vec (E1.gM 3 rfl) rfl, ?_⟩
        have F1 := E1.pM (o' := .vec TY.int (plains [.int .i64 (n : Nat)]) 1) 3 rfl
        refine ⟨_, storeH_vec (F1.gM 2 rfl) rfl, Fin.of ?_⟩
        have F2 := F1.pM (o' := foundO r2 (.slice a 0 c)) 2 rfl
        exact ⟨n, r2, [], a, c, r', fun e => by omega, fun _ => by rw [hdr, toldR_some hf]; simp, by simp, R, F2⟩
    · have hq1 : 1 ≤ q := by omega
      have ht := i1 hq1
      rw [hdr] at ht
      refine ⟨fun hs => ?_, fun hs => ?_⟩
      · have : l = [] := ba_inj (by rw [hs]; rfl)
        subst this
        rw [loadsL_nil, List.append_nil] at ht
        exact fin ht R E1
      · cases l with
        | nil => exact absurd rfl hs
        | cons b r2 =>
          have hb : byteAt (ba (b :: r2)) (Int.toNat 0) = ((b.toNat : Nat) : Int) := by
            obtain ⟨b', e1, e2⟩ := byteAt_w (s := ba (b :: r2)) (i := 0) (by rw [ba_size]; simp)
            rw [bl_ba] at e1
            cases e1
            exact e2
          refine ⟨by omega, by rw [ba_size]; simp, fun h1' => Fin.of ?_, fun h1' => ?_⟩
          · rw [hb] at h1'
            have hb1 : b = 1 := by
              have : b.toNat = (1 : UInt8).toNat := by show b.toNat = 1; omega
              exact UInt8.toNat.inj this
            subst hb1
            rw [loadsL_yes] at ht
            unfold S_vault_look_J1
            refine ⟨a, _, c, E1.cM 2 rfl (i := 1) rfl, by omega, by rw [ba_size]; simp; omega, by omega, fun k56 a56 b56 h57 e57 => ?_⟩
            have ex : ByteArray.extract (ba (1 :: r2)) (Int.toNat 1) (Int.toNat (((ba (1 :: r2)).size : Nat) : Int)) = ba r2 := by
              rw [ba_size, Int.toNat_natCast]; exact extract_ba_end (1 :: r2) 1
            rw [ex] at e57
            have c11 : cellH B h57 ⟨k11, 1, none⟩ = some (Value.slice a acc.length c) := by
              have F := E1.nM a56 b56 e57
              exact F.cM 2 rfl (i := 1) rfl
            refine ⟨c11, ?_⟩
            refine E1.push1 (L.length + 5) (upM 5 rfl) R TK.slc_strs TK.zero_str rfl (by omega) (by omega) TK.sl_strs (ys := strC r2) rfl (strC_one r2) (by rw [flatMap_length strC_len, strC_len]; omega) a56 b56 e57 fun a' m' c' r'' h59 R' E2 => ⟨a', m', c', rfl, ?_⟩
            rw [setM] at E2
            refine ⟨E2.cM 2 rfl (i := 1) rfl, _, storeH_vec (E2.gM 2 rfl) rfl, Fin.of ?_⟩
            have hm := Row.len R'
            rw [List.length_append, flatMap_length strC_len, strC_len] at hm
            have hm2 : m' = (acc ++ [r2]).length := by rw [List.length_append, List.length_singleton]; omega
            subst hm2
            have F2 := E2.pM (o' := foundO im (.slice a' (acc ++ [r2]).length c')) 2 rfl
            refine ⟨ep, im, acc ++ [r2], a', c', r'', fun e => by omega, fun _ => by rw [ht]; simp [List.append_assoc], by rw [List.length_append, List.length_singleton]; omega, ?_, F2⟩
            unfold SRow
            rw [List.flatMap_append, List.flatMap_singleton]; exact R'
          · rw [hb] at h1'
            have hb1 : b ≠ 1 := fun e => by subst e; exact h1' rfl
            rw [loadsL_no hb1, List.append_nil] at ht
            exact fin ht R E1
  · rintro h23 ⟨ep, im, acc, a, c, r', i0, i1, hal, R, E⟩
    rw [List.length_map] at i0 i1 E
    refine fin ?_ R E
    rcases Nat.eq_zero_or_pos rs.length with hz | hp
    · have : rs = [] := List.length_eq_zero_iff.1 hz
      obtain ⟨rfl, rfl, rfl⟩ := i0 hz
      rw [this, toldR_nil]
    · rw [i1 hp, List.drop_length]; simp [loadsL]
def vlog (kD : Nat) (ar : Int) (cs : List Chg) : AObj := walO kD ar (wholeL (bl (textD ar cs))) (tornOf (bl (textD ar cs)))
noncomputable def aOf (cs : List Chg) : Int := areaL (bl (textD 0 cs)) (bl (textD 1 cs))
noncomputable def fOf (cs : List Chg) : TDL := foundL (bl (textD 0 cs)) (bl (textD 1 cs))
theorem vopen_wp {Q : Option Addr → ByteArray → Option Addr → Nat → Nat → Int → Heap → Prop} (E : Keep B h0 L h) (A : DAt L i kD cs k v r) (ok : DOk cs)
    (hQ : ∀ kv kl a c r' h', SRow r' (.slice a (fOf cs).ls.length c) (fOf cs).ls → Keep B h0 (L ++ [some (kv, vltO kD kl (fOf cs).e false), some (kl, vlog kD (aOf cs) cs), r']) h' → Q (some ⟨kv, 0, none⟩) (ba (fOf cs).im) a (fOf cs).ls.length c 0 h') : C_vault_Open B (some ⟨kD, 0, none⟩) h Q := by
  refine C_vault_Open.of ?_
  unfold S_vault_Open
  intro k8 a8 b8 h9 e9
  have E1 := E.start.nM a8 b8 e9
  refine ⟨fun e => (by cases e), fun _ => ?_⟩
  intro k16 a16 b16 h17 e17 k18 a18 b18 h19 e19
  have E2 := (E1.nM a16 b16 e17).nM a18 b18 e19
  refine ⟨fun ix m h' => (ix = 0 ∧ m = 2 ∧ Keep B h0 (L ++ [some (k8, foundO [] (.slice none 0 0)), some (k16, .vec TY.vault_Vault (plains [.pointer (some ⟨kD, 0, none⟩), .pointer none, .int .i64 0, .bool false]) 4), some (k18, foundO [] (.slice none 0 0))]) h') ∨
      ∃ (ar : Int) (T : TDL) (kl : Nat) (a : Option Addr) (c : Nat) (r' : Option (Nat × AObj)), (ix = 1 ∧ m = 1 ∧ ar = 0 ∧ T = toldL (bl (textD 0 cs)) ∨ ix = 2 ∧ m = 0 ∧ ar = aOf cs ∧ T = fOf cs) ∧ SRow r' (.slice a T.ls.length c) T.ls ∧ Keep B h0 (L ++ [some (k8, foundO [] (.slice none 0 0)), some (k16, vltO kD kl T.e false), some (k18, foundO T.im (.slice a T.ls.length c)), some (kl, vlog kD ar cs), r']) h', 2, Fin.of (.inl ⟨rfl, rfl, E2⟩), ?_⟩
  clear E E1 E2 e9 e17 e19
  rintro _ _ h21 hor
  have w1 : IntKind.wrap .i64 ((0 : Int) + 1) = 1 := w64 (by omega) (by omega)
  have w2 : IntKind.wrap .i64 ((1 : Int) + 1) = 2 := w64 (by omega) (by omega)
  refine ⟨fun hlt => ?_, fun hge => ?_⟩
  · rcases hor with ⟨rfl, rfl, E⟩ | ⟨ar, T, kl, a, c, r', ⟨rfl, rfl, rfl, rfl⟩ | ⟨rfl, rfl, _, _⟩, R, E⟩
    · refine walopen_wp E (A.app _) (.inl rfl) ok fun kl h27 E1 => ?_
      rw [List.append_assoc] at E1
      refine look_wp (j := L.length + 3) E1 (A.app _) (upM 3 rfl) ok (.inl rfl) fun a c r' h30 R E2 => ?_
      rw [List.append_assoc] at E2
      generalize hT : toldL (bl (textD 0 cs)) = T at R
      intro k36 a36 b36 h37 e37
      have E3 := E2.nM a36 b36 e37
      refine ⟨_, stores_whole (E3.gM 5 rfl) rfl (by simp) (by simp [isOne]) (by simp), ?_⟩
      have E4 := E3.pM (o' := foundO T.im (.slice a T.ls.length c)) 5 rfl
      refine ⟨none, E4.cM 1 rfl (i := 1) rfl, fun _ => Fin.of ?_, fun hn => absurd rfl hn⟩
      unfold S_vault_Open_J1
      refine ⟨fun _ => ⟨_, _, _, _, ⟨E4.cM 5 rfl (i := 0) rfl, E4.cM 5 rfl (i := 1) rfl, trivial⟩, _, storeH_vec (E4.gM 1 rfl) rfl, ?_⟩, fun e => by cases e⟩
      have E5 := E4.pM (o' := .vec TY.vault_Vault (plains [.pointer (some ⟨kD, 0, none⟩), .pointer (some ⟨kl, 0, none⟩), .int .i64 0, .bool false]) 4) 1 rfl
      refine ⟨⟨E5.cM 5 rfl (i := 0) rfl, E5.cM 5 rfl (i := 1) rfl, trivial⟩, _, storeH_vec (E5.gM 1 rfl) rfl, ?_⟩
      have E6 := E5.pM (o' := vltO kD kl T.e false) 1 rfl
      refine ⟨⟨E6.cM 5 rfl (i := 0) rfl, E6.cM 5 rfl (i := 1) rfl, trivial⟩, _, stores_whole (E6.gM 2 rfl) rfl (by simp) (by simp [isOne]) (by simp), ?_⟩
      have E7 := E6.pM (o' := foundO T.im (.slice a T.ls.length c)) 2 rfl
      exact Fin.of ⟨1, by omega, .inr ⟨0, T, kl, a, c, r', .inl ⟨w1, rfl, rfl, rfl⟩, R, E7.tM 5⟩⟩
    · refine walopen_wp E (A.app _) (.inr rfl) ok fun kl2 h27 E1 => ?_
      rw [List.append_assoc] at E1
      refine look_wp (j := L.length + 5) E1 (A.app _) (upM 5 rfl) ok (.inr rfl) fun a2 c2 r2 h30 R2 E2 => ?_
      rw [List.append_assoc] at E2
      generalize hT0 : toldL (bl (textD 0 cs)) = T at R E E1 E2
      generalize hT1 : toldL (bl (textD 1 cs)) = U at R2
      intro k36 a36 b36 h37 e37
      have E3 := E2.nM a36 b36 e37
      refine ⟨_, stores_whole (E3.gM 7 rfl) rfl (by simp) (by simp [isOne]) (by simp), ?_⟩
      have E4 := E3.pM (o' := foundO U.im (.slice a2 U.ls.length c2)) 7 rfl
      refine ⟨_, E4.cM 1 rfl (i := 1) rfl, fun e => (by cases e), fun _ => ⟨_, E4.cM 1 rfl (i := 2) rfl, fun hgt => Fin.of ?_, fun hle => Fin.of ?_⟩⟩
      · unfold S_vault_Open_J1
        have hlt2 : (toldL (bl (textD 0 cs))).e < (toldL (bl (textD 1 cs))).e := by rw [hT0, hT1]; omega
        have eF : fOf cs = U := by unfold fOf foundL; rw [if_pos hlt2, hT1]
        have eA : aOf cs = 1 := by unfold aOf areaL; rw [if_pos hlt2]
        refine ⟨fun _ => ⟨_, _, _, _, ⟨E4.cM 7 rfl (i := 0) rfl, E4.cM 7 rfl (i := 1) rfl, trivial⟩, _, storeH_vec (E4.gM 1 rfl) rfl, ?_⟩, fun e => by cases e⟩
        have E5 := E4.pM (o' := .vec TY.vault_Vault (plains [.pointer (some ⟨kD, 0, none⟩), .pointer (some ⟨kl2, 0, none⟩), .int .i64 (T.e : Nat), .bool false]) 4) 1 rfl
        refine ⟨⟨E5.cM 7 rfl (i := 0) rfl, E5.cM 7 rfl (i := 1) rfl, trivial⟩, _, storeH_vec (E5.gM 1 rfl) rfl, ?_⟩
        have E6 := E5.pM (o' := vltO kD kl2 U.e false) 1 rfl
        refine ⟨⟨E6.cM 7 rfl (i := 0) rfl, E6.cM 7 rfl (i := 1) rfl, trivial⟩, _, stores_whole (E6.gM 2 rfl) rfl (by simp) (by simp [isOne]) (by simp), ?_⟩
        have E7 := E6.pM (o' := foundO U.im (.slice a2 U.ls.length c2)) 2 rfl
        exact Fin.of ⟨0, by omega, .inr ⟨1, U, kl2, a2, c2, r2, .inr ⟨w2, rfl, eA.symm, eF.symm⟩, R2, E7.sM [0, 1, 2, 5, 6] (by decide)⟩⟩
      · unfold S_vault_Open_J1
        have hlt2 : ¬ (toldL (bl (textD 0 cs))).e < (toldL (bl (textD 1 cs))).e := by rw [hT0, hT1]; omega
        have eF : fOf cs = T := by unfold fOf foundL; rw [if_neg hlt2, hT0]
        have eA : aOf cs = 0 := by unfold aOf areaL; rw [if_neg hlt2]
        exact ⟨fun e => (by cases e), fun _ => Fin.of ⟨0, by omega, .inr ⟨0, T, kl, a, c, r', .inr ⟨w2, rfl, eA.symm, eF.symm⟩, R, E4.tM 5⟩⟩⟩
    · omega
  · rcases hor with ⟨rfl, rfl, E⟩ | ⟨ar, T, kl, a, c, r', ⟨rfl, rfl, rfl, rfl⟩ | ⟨rfl, rfl, rfl, rfl⟩, R, E⟩
    · omega
    · omega
    · refine ⟨_, _, _, _, ⟨E.cM 2 rfl (i := 0) rfl, E.cM 2 rfl (i := 1) rfl, trivial⟩, _, stores_whole (E.gM 0 rfl) rfl (by simp) (by simp [isOne]) (by simp), ?_⟩
      have E1 := E.pM (o' := foundO (fOf cs).im (.slice a (fOf cs).ls.length c)) 0 rfl
      exact ⟨⟨E1.cM 2 rfl (i := 0) rfl, E1.cM 2 rfl (i := 1) rfl, trivial⟩, _, _, _, _, ⟨E1.cM 0 rfl (i := 0) rfl, E1.cM 0 rfl (i := 1) rfl, trivial⟩, Fin.of (hQ k16 kl a c r' _ R (E1.sM [1, 3, 4] (by decide)))⟩
end
end Go.Proofs.YtlehephbflgblaaGreat.H
namespace Go.Proofs.YtlehephbflgblaaGreat.H
open Go Go.RowKit
set_option linter.unusedVariables false
set_option maxRecDepth 100000
theorem tD_app (area : Int) (cs : List Chg) (s : ByteArray) : textD area (cs ++ [Chg.mk area false s]) = textD area cs ++ s := by
  rw [textD_one]; simp [chgD]
theorem tD_reset (area : Int) (cs : List Chg) (s : ByteArray) : textD area (cs ++ [Chg.mk area true s]) = ByteArray.mk #[] := by
  rw [textD_one]; simp [chgD]
theorem tD_other {area : Int} (cs : List Chg) (c : Chg) (h : c.a ≠ area) : textD area (cs ++ [c]) = textD area cs := by
  rw [textD_one]; simp [chgD, h]
section
variable {B : RO} {h0 h h' : Heap} {L M : List (Option (Nat × AObj))} {r : Option (Nat × AObj)} {i j kD kv kl k sz e : Nat} {cs : List Chg} {v : Value} {area ar : Int} {torn ready : Bool}
theorem DAt.m (q : Nat) (hp : M[q]? = some (some (kD, dskO cs k v))) (hq : M[q + 1]? = some r) : DAt (L ++ M) (L.length + q) kD cs k v r := ⟨upM q hp, upM (q + 1) hq⟩
theorem setDM (q : Nat) : setD (L ++ M) (L.length + q) kD cs k v r = L ++ setD M q kD cs k v r := by
  unfold setD
  rw [setM, show L.length + q + 1 = L.length + (q + 1) from rfl, setM]
def vE (kD kv kl : Nat) (cs : List Chg) (k : Nat) (v : Value) (r : Option (Nat × AObj)) (e : Nat) (ready : Bool) (w : AObj) : List (Option (Nat × AObj)) := [some (kD, dskO cs k v), r, some (kv, vltO kD kl e ready), some (kl, w)]
theorem vsize_wp {Q : Int → Heap → Prop} (E : Keep B h0 L h) (hv : L[i]? = some (some (kv, vltO kD kl e ready))) (hj : L[j]? = some (some (kl, walO kD area sz torn))) (hQ : Q ((sz : Nat) : Int) h) : C_vault_Vault_Size B (some ⟨kv, 0, none⟩) h Q := by
  refine C_vault_Vault_Size.of ?_
  unfold S_vault_Vault_Size
  exact ⟨fun e => (by cases e), fun _ => ⟨_, rfl, _, E.cellA i (m := 0) hv rfl, walsize_wp E hj (Fin.of hQ)⟩⟩
theorem vforce_wp {Q : Heap → Prop} (E : Keep B h0 (L ++ vE kD kv kl cs k v r e ready (walO kD ar sz torn)) h) (R : CRow r v (cs.drop k)) (hk : k ≤ cs.length) (ok : DOk cs) (hl : cs.length ≤ 100000)
    (hQ : ∀ h', Keep B h0 (L ++ vE kD kv kl cs cs.length (.slice none 0 0) none e ready (walO kD ar sz torn)) h' → Q h') : C_vault_Vault_Force B (some ⟨kv, 0, none⟩) h Q := by
  refine C_vault_Vault_Force.of ?_
  unfold S_vault_Vault_Force
  refine ⟨fun e => (by cases e), fun _ => ⟨_, rfl, _, E.cellA (L.length + 2) (m := 0) (upM 2 rfl) rfl, walforce_wp (j := L.length + 3) E (DAt.m 0 rfl rfl) (upM 3 rfl) R hk ok hl fun h6 E1 => Fin.of (hQ _ ?_)⟩⟩
  rw [setDM] at E1; exact E1
theorem vappend_wp {s : ByteArray} {Q : Int → Heap → Prop} (E : Keep B h0 (L ++ vE kD kv kl cs k v r e true (walO kD ar sz false)) h) (R : CRow r v (cs.drop k)) (hk : k ≤ cs.length) (ok : DOk cs) (hl : cs.length ≤ 100000) (hs : s.size ≤ 100000000) (hsz : sz ≤ 16384) (ha : ar = 0 ∨ ar = 1)
    (hL : 1024 < s.size + 1 → ∀ h', Keep B h0 (L ++ vE kD kv kl cs k v r e true (walO kD ar sz false)) h' → Q 3 h') (hF : s.size + 1 ≤ 1024 → 16384 < (textD ar cs).size + (closeL (1 :: bl s)).length → ∀ h', Keep B h0 (L ++ vE kD kv kl cs k v r e true (walO kD ar sz false)) h' → Q 6 h')
    (hQ : s.size + 1 ≤ 1024 → (textD ar cs).size + (closeL (1 :: bl s)).length ≤ 16384 → ∀ v' r' h', CRow r' v' ((cs ++ [Chg.mk ar false (ba (closeL (1 :: bl s)))]).drop k) → Keep B h0 (L ++ vE kD kv kl (cs ++ [Chg.mk ar false (ba (closeL (1 :: bl s)))]) k v' r' e true (walO kD ar (sz + (closeL (1 :: bl s)).length) false)) h' → Q 0 h') : C_vault_Vault_Append B (some ⟨kv, 0, none⟩) s h Q := by
  refine C_vault_Vault_Append.of ?_
  unfold S_vault_Vault_Append
  refine ⟨fun e => (by cases e), fun _ => ⟨_, rfl, true, E.cellA (L.length + 2) (m := 0) (upM 2 rfl) rfl, fun _ => Fin.of ?_, fun e => by cases e⟩⟩
  unfold S_vault_Vault_Append_J1
  refine ⟨_, rfl, _, E.cellA (L.length + 2) (m := 0) (upM 2 rfl) rfl, fun k14 a14 b14 h15 e15 => ?_⟩
  have E1 := E.nM a14 b14 e15
  refine ⟨E1.cellA (L.length + 2) (m := 0) (upM 2 rfl) rfl, bytes_str (bs := [1]) (E1.gM 4 rfl) rfl (by simp) ?_⟩
  have E2 := E1.tM 4
  have e2 : bl (ba [1] ++ s) = 1 :: bl s := by rw [bl_append, bl_ba]; rfl
  have e3 : (ba [1] ++ s).size = s.size + 1 := by rw [← bl_length, e2, List.length_cons, bl_length]
  refine ⟨ba [1], rfl, E2.cellA (L.length + 2) (m := 0) (upM 2 rfl) rfl, by rw [ba_size]; simp; omega, ?_⟩
  refine walappend_wp (j := L.length + 3) E2 (DAt.m 0 rfl rfl) (upM 3 rfl) (by omega) (by omega) R hk ok hl (by omega) hsz ha (fun hgt => ⟨E2.cellA (L.length + 2) (m := 0) (upM 2 rfl) rfl, Fin.of (hL (by omega) _ E2)⟩) (fun _ ht => by cases ht) (fun h1 h2 => ?_) (fun h1 h2 h3 v' r' h' R' E3 => ?_)
  · intro h3
    rw [e2] at h3
    exact ⟨E2.cellA (L.length + 2) (m := 0) (upM 2 rfl) rfl, Fin.of (hF (by omega) h3 _ E2)⟩
  · rw [e2] at R' E3 h3
    rw [setDM, setM] at E3
    exact ⟨E3.cellA (L.length + 2) (m := 0) (upM 2 rfl) rfl, Fin.of (hQ (by omega) h3 v' r' _ R' E3)⟩
theorem vsettle_full {s : ByteArray} {Q : Int → Heap → Prop} (g : h kv = some (vltO kD kl e ready)) (he : 1099511627776 ≤ e) (hQ : Q 6 h) : C_vault_Vault_Settle B (some ⟨kv, 0, none⟩) s h Q := by
  refine C_vault_Vault_Settle.of ?_
  unfold S_vault_Vault_Settle
  exact ⟨fun e => (by cases e), fun _ => ⟨_, rfl, _, cellH_vec g rfl, fun _ => Fin.of hQ, fun hn => by omega⟩⟩
def stl (ar : Int) (e : Nat) (im : List UInt8) (cs : List Chg) : List Chg := cs ++ [Chg.mk (1 - ar) true ByteArray.empty] ++ [Chg.mk (1 - ar) false (ba (closeL (imgL (e + 1) im)))] ++ [Chg.mk ar true ByteArray.empty]
theorem stl_new {ar : Int} (ha : ar = 0 ∨ ar = 1) (e : Nat) (im : List UInt8) (cs : List Chg) : textD (1 - ar) (stl ar e im cs) = ba (closeL (imgL (e + 1) im)) := by
  unfold stl
  rw [tD_other _ _ (by simp only; omega), tD_app, tD_reset, ← ba_nil, ← ba_append, List.nil_append]
theorem stl_old (ar : Int) (e : Nat) (im : List UInt8) (cs : List Chg) : textD ar (stl ar e im cs) = ByteArray.mk #[] := by unfold stl; rw [tD_reset]
set_option maxHeartbeats 1000000 in
theorem vsettle_wp {s : ByteArray} {Q : Int → Heap → Prop} (E : Keep B h0 (L ++ vE kD kv kl cs k v r e ready (walO kD ar sz torn)) h) (R : CRow r v (cs.drop k)) (hk : k ≤ cs.length) (ok : DOk cs) (hl : cs.length ≤ 10000) (hs : s.size ≤ 100000000) (ha : ar = 0 ∨ ar = 1) (he : e < 1099511627776)
    (hL : 1024 < (imgL (e + 1) (bl s)).length → ∀ h', Keep B h0 (L ++ vE kD kv kl cs k v r e ready (walO kD ar sz torn)) h' → Q 3 h')
    (hQ : (imgL (e + 1) (bl s)).length ≤ 1024 → DOk (stl ar e (bl s) cs) → ∀ kl' h', Keep B h0 (L ++ vE kD kv kl' (stl ar e (bl s) cs) (stl ar e (bl s) cs).length (.slice none 0 0) none (e + 1) true (walO kD (1 - ar) ((imgL (e + 1) (bl s)).length + 6) false)) h' → Q 0 h') : C_vault_Vault_Settle B (some ⟨kv, 0, none⟩) s h Q := by
  refine C_vault_Vault_Settle.of ?_
  unfold S_vault_Vault_Settle
  refine ⟨fun e => (by cases e), fun _ => ⟨_, rfl, _, E.cellA (L.length + 2) (m := 0) (upM 2 rfl) rfl, fun hge => by omega, fun _ => Fin.of ?_⟩⟩
  unfold S_vault_Vault_Settle_J1
  intro k6 a6 b6 h7 e7
  have E1 := E.nM a6 b6 e7
  refine ⟨_, rfl, _, E1.cellA (L.length + 2) (m := 0) (upM 2 rfl) rfl, fun k11 a11 b11 h12 e12 => ?_⟩
  have hw : IntKind.wrap .i64 ((e : Int) + 1) = ((e + 1 : Nat) : Int) := by rw [w64 (by omega) (by omega)]; omega
  rw [hw] at e12
  have E2 := E1.nM a11 b11 e12
  refine Spec.ent (styl_new (E2.gM 4 rfl)) ?_
  have E3 := E2.pM (o' := stylO []) 4 rfl
  have e1 : natsB [0, ((e + 1 : Nat) : Int)] = 0 :: natB (e + 1) := by
    simp only [natsB, List.flatMap_cons, List.flatMap_nil, List.append_nil]
    rw [show (0 : Int) = ((0 : Nat) : Int) from rfl, natI_nat, natI_nat, natB_0]; rfl
  have hnb := natB_length (n := e + 1) (by omega)
  have hil : (imgL (e + 1) (bl s)).length = 1 + (natB (e + 1)).length + s.size := by simp [imgL, bl_length]; omega
  refine nat_wp (ns := [0, ((e + 1 : Nat) : Int)]) (E3.gM 4 rfl) (fun i n hi => ?_) (by intro n hn; simp at hn; omega) (by simp) ?_
  · have hne : k11 ≠ k6 := fun e => absurd e (E3.ne (L.length + 5) (L.length + 4) (upM 5 rfl) (upM 4 rfl) (by omega))
    match i with
    | 0 => cases hi; exact ⟨_, rfl, hne, cellH_vec (E3.gM 5 rfl) rfl⟩
    | 1 => cases hi; exact ⟨_, rfl, hne, cellH_vec (E3.gM 5 rfl) rfl⟩
    | i + 2 => cases hi
  rw [e1, List.nil_append]
  have E4 := (E3.pM (o' := stylO (0 :: natB (e + 1))) 4 rfl).tM 5
  refine raw_wp (E4.gM 4 rfl) (by simp; omega) ?_
  have E5 := E4.pM (o' := stylO (0 :: natB (e + 1) ++ bl s)) 4 rfl
  have eI : (0 :: natB (e + 1) ++ bl s : List UInt8) = imgL (e + 1) (bl s) := rfl
  rw [eI] at E5 ⊢
  have E5 : Keep B h0 (L ++ [some (kD, dskO cs k v), r, some (kv, vltO kD kl e ready), some (kl, walO kD ar sz torn), some (k6, stylO (imgL (e + 1) (bl s)))]) _ := E5
  refine bytes_wp (E5.gM 4 rfl) ⟨fun hgt => ?_, fun hle => ?_⟩
  · rw [ba_size] at hgt
    exact Fin.of (hL (by omega) _ (E5.tM 4))
  rw [ba_size] at hle
  have hw2 : IntKind.wrap .i64 (1 - ar) = 1 - ar := w64 (by omega) (by omega)
  have ha2 : 1 - ar = 0 ∨ 1 - ar = 1 := by omega
  refine ⟨_, rfl, _, E5.cellA (L.length + 2) (m := 0) (upM 2 rfl) rfl, _, rfl, _, E5.cM 2 rfl (i := 0) rfl, walarea_wp (j := L.length + 3) E5 (upM 3 rfl) ⟨E5.cM 2 rfl (i := 0) rfl, ?_⟩⟩
  rw [hw2]
  refine walopen_wp E5 (DAt.m 0 rfl rfl) ha2 ok fun kl' h32 E6 => ?_
  rw [List.append_assoc] at E6
  have E6 : Keep B h0 (L ++ [some (kD, dskO cs k v), r, some (kv, vltO kD kl e ready), some (kl, walO kD ar sz torn), some (k6, stylO (imgL (e + 1) (bl s))), some (kl', walO kD (1 - ar) (wholeL (bl (textD (1 - ar) cs))) (tornOf (bl (textD (1 - ar) cs))))]) h32 := E6
  refine ⟨E6.cM 2 rfl (i := 0) rfl, ?_⟩
  refine walclear_wp (j := L.length + 5) E6 (DAt.m 0 rfl rfl) (upM 5 rfl) (by omega) (by omega) R hk (by omega) ha2 fun v1 r1 h36 R1 E7 => ?_
  rw [setDM, setM] at E7
  have E7 : Keep B h0 (L ++ [some (kD, dskO (cs ++ [Chg.mk (1 - ar) true ByteArray.empty]) k v1), r1, some (kv, vltO kD kl e ready), some (kl, walO kD ar sz torn), some (k6, stylO (imgL (e + 1) (bl s))), some (kl', walO kD (1 - ar) 0 false)]) h36 := E7
  have ok1 : DOk (cs ++ [Chg.mk (1 - ar) true ByteArray.empty]) := ok.snoc ha2 (by show (textD (1 - ar) _).size ≤ _; rw [tD_reset]; decide)
  have z1 : (textD (1 - ar) (cs ++ [Chg.mk (1 - ar) true ByteArray.empty])).size = 0 := by rw [tD_reset]; rfl
  refine walforce_wp (j := L.length + 5) E7 (DAt.m 0 rfl rfl) (upM 5 rfl) R1 (by rw [List.length_append]; omega) ok1 (by rw [List.length_append]; simp; omega) fun h37 E8 => ?_
  rw [setDM] at E8
  have E8 : Keep B h0 (L ++ [some (kD, dskO (cs ++ [Chg.mk (1 - ar) true ByteArray.empty]) (cs ++ [Chg.mk (1 - ar) true ByteArray.empty]).length (.slice none 0 0)), none, some (kv, vltO kD kl e ready), some (kl, walO kD ar sz torn), some (k6, stylO (imgL (e + 1) (bl s))), some (kl', walO kD (1 - ar) 0 false)]) h37 := E8
  refine bytes_wp (E8.gM 4 rfl) ?_
  have hcl := closeL_len (l := imgL (e + 1) (bl s)) (by omega)
  refine walappend_wp (j := L.length + 5) E8 (DAt.m 0 rfl rfl) (upM 5 rfl) (by omega) (by omega) (by rw [List.drop_length]; exact Row.nil _ _) (Nat.le_refl _) ok1 (by rw [List.length_append]; simp; omega) (by rw [ba_size]; omega) (by omega) ha2 (fun hgt => by rw [ba_size] at hgt; omega) (fun _ ht => by cases ht) (fun _ _ hf => by rw [z1, bl_ba, hcl] at hf; omega) fun _ _ _ v2 r2 h40 R2 E9 => ?_
  rw [bl_ba] at R2 E9
  rw [setDM, setM] at E9
  rw [hcl, Nat.zero_add] at E9
  have E9 : Keep B h0 (L ++ [some (kD, dskO (cs ++ [Chg.mk (1 - ar) true ByteArray.empty] ++ [Chg.mk (1 - ar) false (ba (closeL (imgL (e + 1) (bl s))))]) (cs ++ [Chg.mk (1 - ar) true ByteArray.empty]).length v2), r2, some (kv, vltO kD kl e ready), some (kl, walO kD ar sz torn), some (k6, stylO (imgL (e + 1) (bl s))), some (kl', walO kD (1 - ar) ((imgL (e + 1) (bl s)).length + 6) false)]) h40 := E9
  have ok2 : DOk (cs ++ [Chg.mk (1 - ar) true ByteArray.empty] ++ [Chg.mk (1 - ar) false (ba (closeL (imgL (e + 1) (bl s))))]) := ok1.snoc ha2 (by show (textD (1 - ar) _).size ≤ _; rw [tD_app, ByteArray.size_append, z1, ba_size, hcl]; omega)
  refine walforce_wp (j := L.length + 5) E9 (DAt.m 0 rfl rfl) (upM 5 rfl) R2 (by simp) ok2 (by simp; omega) fun h42 E10 => ?_
  rw [setDM] at E10
  have E10 : Keep B h0 (L ++ [some (kD, dskO (cs ++ [Chg.mk (1 - ar) true ByteArray.empty] ++ [Chg.mk (1 - ar) false (ba (closeL (imgL (e + 1) (bl s))))]) (cs ++ [Chg.mk (1 - ar) true ByteArray.empty] ++ [Chg.mk (1 - ar) false (ba (closeL (imgL (e + 1) (bl s))))]).length (.slice none 0 0)), none, some (kv, vltO kD kl e ready), some (kl, walO kD ar sz torn), some (k6, stylO (imgL (e + 1) (bl s))), some (kl', walO kD (1 - ar) ((imgL (e + 1) (bl s)).length + 6) false)]) h42 := E10
  refine walclear_wp (j := L.length + 3) E10 (DAt.m 0 rfl rfl) (upM 3 rfl) (by omega) (by omega) (by rw [List.drop_length]; exact Row.nil _ _) (Nat.le_refl _) (by simp; omega) ha fun v3 r3 h43 R3 E11 => ?_
  rw [setDM, setM] at E11
  have E11 : Keep B h0 (L ++ [some (kD, dskO (stl ar e (bl s) cs) (cs ++ [Chg.mk (1 - ar) true ByteArray.empty] ++ [Chg.mk (1 - ar) false (ba (closeL (imgL (e + 1) (bl s))))]).length v3), r3, some (kv, vltO kD kl e ready), some (kl, walO kD ar 0 false), some (k6, stylO (imgL (e + 1) (bl s))), some (kl', walO kD (1 - ar) ((imgL (e + 1) (bl s)).length + 6) false)]) h43 := E11
  have ok3 : DOk (stl ar e (bl s) cs) := ok2.snoc ha (by show (textD ar _).size ≤ _; rw [tD_reset]; decide)
  refine walforce_wp (j := L.length + 3) E11 (DAt.m 0 rfl rfl) (upM 3 rfl) R3 (by simp [stl]) ok3 (by simp [stl]; omega) fun h44 E12 => ?_
  rw [setDM] at E12
  have E12 : Keep B h0 (L ++ [some (kD, dskO (stl ar e (bl s) cs) (stl ar e (bl s) cs).length (.slice none 0 0)), none, some (kv, vltO kD kl e ready), some (kl, walO kD ar 0 false), some (k6, stylO (imgL (e + 1) (bl s))), some (kl', walO kD (1 - ar) ((imgL (e + 1) (bl s)).length + 6) false)]) h44 := E12
  refine ⟨_, rfl, _, E12.cellA (L.length + 2) (m := 0) (upM 2 rfl) rfl, _, rfl, ?_⟩
  have s1 := E12.storeA (L.length + 2) 0 1 (.pointer (some ⟨kl', 0, none⟩)) (upM 2 rfl) rfl
  obtain ⟨s1, E13⟩ := s1
  rw [setM] at E13
  refine ⟨_, s1, _, rfl, ?_⟩
  obtain ⟨s2, E14⟩ := E13.storeA (L.length + 2) 0 2 (.int .i64 ((e + 1 : Nat) : Int)) (upM 2 rfl) rfl
  rw [setM] at E14
  rw [hw]
  refine ⟨_, s2, _, rfl, ?_⟩
  obtain ⟨s3, E15⟩ := E14.storeA (L.length + 2) 0 3 (.bool true) (upM 2 rfl) rfl
  rw [setM] at E15
  refine ⟨_, s3, Fin.of (hQ (by omega) ok3 kl' _ ?_)⟩
  have E16 := E15.sM [0, 1, 2, 5] (by decide)
  exact E16
end
end Go.Proofs.YtlehephbflgblaaGreat.H
namespace Go.Proofs.YtlehephbflgblaaGreat.H
open Go
set_option linter.unusedVariables false
set_option maxRecDepth 100000
def entC_file_File (x : Int × (Bool × ByteArray)) : List Value := [.int .i64 x.1, .bool x.2.1, .string x.2.2]
theorem entC_file_File_len (x : Int × (Bool × ByteArray)) : (entC_file_File x).length = 3 := rfl
theorem entC_file_File_one (x : Int × (Bool × ByteArray)) : ∀ y ∈ entC_file_File x, isOne y = true := fun y hy => by simp [entC_file_File] at hy; rcases hy with rfl | rfl | rfl <;> rfl
theorem TK.slc_ent_file_File : slcB PG TY.s_draft_entry_file_File = some (TY.draft_entry_file_File, 3, 32) := by kernel_rfl
theorem TK.zero_ent_file_File : zeroB PG TY.draft_entry_file_File = some [.int .i64 0, .bool false, .string ByteArray.empty] := by kernel_rfl
theorem TK.sl_ent_file_File : slT PG TY.s_draft_entry_file_File = true := by kernel_rfl
theorem TK.int_ent_file_File : intB PG TY.int = some .i64 := by kernel_rfl
def DRow_file_File (r : Option (Nat × AObj)) (v : Value) (l : List (Int × (Bool × ByteArray))) : Prop := Row r v TY.draft_entry_file_File 3 (l.flatMap entC_file_File)
def drO_file_File (v : Value) : AObj := .vec TY.draft_Draft_file_File (plains [v]) 1
structure DAt_file_File (L : List (Option (Nat × AObj))) (i k : Nat) (v : Value) (r : Option (Nat × AObj)) : Prop where
  p : L[i]? = some (some (k, drO_file_File v))
  q : L[i + 1]? = some r
section
variable {B : RO} {h0 h h' : Heap} {L : List (Option (Nat × AObj))} {r : Option (Nat × AObj)} {i k : Nat} {a : Option Addr} {m c : Nat} {v : Value} {l : List (Int × (Bool × ByteArray))}
theorem by_file_File_wp {x : Int × (Bool × ByteArray)} {n : Int} {Q : Int → Heap → Prop} (hQ : Q (if x.1 < n then -1 else if n < x.1 then 1 else 0) h) : C_draft_by_file_File B x.1 x.2.1 x.2.2 n h Q := by
  refine C_draft_by_file_File.of ?_
  unfold S_draft_by_file_File
  intro k5 a5 b5 h6 e6
  have E := (Keep.nil B h).made a5 b5 e6
  refine ⟨_, E.cell 0 rfl rfl, fun h1 => Fin.ent E.back (Fin.of ?_), fun h1 => ⟨_, E.cell 0 rfl rfl, fun h2 => Fin.ent E.back (Fin.of ?_), fun h2 => Fin.ent E.back (Fin.of ?_)⟩⟩
  · rw [if_pos h1] at hQ; exact hQ
  · rw [if_neg h1, if_pos h2] at hQ; exact hQ
  · rw [if_neg h1, if_neg (fun h => h2 h)] at hQ; exact hQ
theorem bsearch_file_File_wp {n : Int} {Q : Int → Bool → Heap → Prop} (hr : Reads B h a 3 entC_file_File l) (s : SortD l) (hl : l.length ≤ 1000000) (hQ : ∀ p, PosD l n p → Q (p : Nat) (foundD l p n) h) : C_slices_BinarySearchFunc_s_draft_entry_file_File_draft_entry_file_File_int B a l.length c n (Value.func (.func FN.draft_by_file_File) #[] #[]) h Q := by
  refine C_slices_BinarySearchFunc_s_draft_entry_file_File_draft_entry_file_File_int.of ?_
  unfold S_slices_BinarySearchFunc_s_draft_entry_file_File_draft_entry_file_File_int
  refine ⟨fun i j m h' => ∃ lo hi : Nat, i = lo ∧ j = hi ∧ m = hi - lo ∧ lo ≤ hi ∧ hi ≤ l.length ∧ (∀ (q : Nat) (x : Int × (Bool × ByteArray)), q < lo → l[q]? = some x → x.1 < n) ∧ (∀ (q : Nat) (x : Int × (Bool × ByteArray)), hi ≤ q → l[q]? = some x → n ≤ x.1) ∧ h = h', l.length, Fin.of ⟨0, l.length, rfl, rfl, rfl, by omega, Nat.le_refl _, fun q x hq => by omega, fun q x hq hx => by have := (List.getElem?_eq_some_iff.1 hx).1; omega, rfl⟩, ?_⟩
  rintro _ _ _ _ ⟨lo, hi, rfl, rfl, rfl, hlh, hhl, hlo, hhi, rfl⟩
  refine ⟨fun hlt => ⟨by decide, ?_⟩, fun hge => Fin.of ?_⟩
  · have hmid : IntKind.wrap .i64 (Int.fdiv (IntKind.wrap .u64 (IntKind.wrap .i64 (((lo : Nat) : Int) + ((hi : Nat) : Int)))) (2 ^ (min (Int.toNat (1)) (IntKind.bits .u64)))) = (((lo + hi) / 2 : Nat) : Int) := by
      have e1 : IntKind.wrap .i64 (((lo : Nat) : Int) + ((hi : Nat) : Int)) = ((lo + hi : Nat) : Int) := by rw [w64 (by omega) (by omega)]; omega
      have e2 : IntKind.wrap .u64 ((lo + hi : Nat) : Int) = ((lo + hi : Nat) : Int) := by rw [wu64]; omega
      rw [e1, e2, two1, Int.fdiv_eq_ediv_of_nonneg _ (by decide), w64 (by omega) (by omega)]; omega
    rw [hmid]
    have hml : (lo + hi) / 2 < l.length := by omega
    have hx := List.getElem?_eq_getElem hml
    have hb : lo ≤ (lo + hi) / 2 ∧ (lo + hi) / 2 < hi := by omega
    generalize (lo + hi) / 2 = mid at hml hx hb
    generalize l[mid] = x at hx
    obtain ⟨A, e1, _, e4⟩ := hr mid x hx
    have hw : IntKind.wrap .i64 (((mid : Nat) : Int) + 1) = ((mid + 1 : Nat) : Int) := by rw [w64 (by omega) (by omega)]; omega
    rw [hw]
    refine ⟨A, e1, by omega, by omega, x.1, x.2.1, x.2.2, e4, ?_⟩
    refine CallV.func TG.draft_by_file_File (by_file_File_wp (x := x) ⟨fun h1 => Fin.of ⟨hi - (mid + 1), by omega, mid + 1, hi, rfl, rfl, rfl, by omega, hhl, fun q y hq hy => ?_, hhi, rfl⟩, fun h1 => Fin.of ⟨mid - lo, by omega, lo, mid, rfl, rfl, rfl, by omega, by omega, hlo, fun q y hq hy => ?_, rfl⟩⟩)
    · have hx1 : x.1 < n := by
        by_cases h2 : x.1 < n
        · exact h2
        · rw [if_neg h2] at h1; split at h1 <;> omega
      by_cases h : q = mid
      · subst h; rw [hx] at hy; cases hy; exact hx1
      · have := s.get (show q < mid by omega) hy hx; omega
    · have hx1 : n ≤ x.1 := by
        by_cases h2 : x.1 < n
        · rw [if_pos h2] at h1; omega
        · omega
      by_cases h : q = mid
      · subst h; rw [hx] at hy; cases hy; exact hx1
      · have := s.get (show mid < q by omega) hx hy; omega
  · have : lo = hi := by omega
    subst this
    have K : PosD l n lo := ⟨hhl, hlo, hhi⟩
    have hq := hQ lo K
    unfold S_slices_BinarySearchFunc_s_draft_entry_file_File_draft_entry_file_File_int_J1
    refine ⟨fun hlt2 => ?_, fun hge2 => Fin.of ?_⟩
    · have hml : lo < l.length := by omega
      have hx := List.getElem?_eq_getElem hml
      generalize l[lo] = x at hx
      obtain ⟨A, e1, _, e4⟩ := hr lo x hx
      have hf : foundD l lo n = (x.1 == n) := by rw [foundD, hx]
      rw [hf] at hq
      refine ⟨A, e1, by omega, by omega, x.1, x.2.1, x.2.2, e4, ?_⟩
      refine CallV.func TG.draft_by_file_File (by_file_File_wp (x := x) (Fin.of ?_))
      have : (((if x.1 < n then -1 else if n < x.1 then 1 else 0 : Int)) == (0 : Int)) = (x.1 == n) := by
        rw [Bool.eq_iff_iff, beq_iff_eq, beq_iff_eq]
        split
        · omega
        · split <;> omega
      rw [this]; exact hq
    · have hf : foundD l lo n = false := by rw [foundD, List.getElem?_eq_none (by omega)]
      rw [hf] at hq; exact hq
theorem DRow_file_File.len (R : DRow_file_File r (.slice a m c) l) : m = l.length := (Row.rd (B := fun _ => none) R entC_file_File_len (by omega)).1
theorem find_file_File_wp {n : Int} {Q : Int → Bool → Heap → Prop} (E : Keep B h0 L h) (A : DAt_file_File L i k v r) (R : DRow_file_File r v l) (s : SortD l) (hl : l.length ≤ 1000000) (hQ : ∀ p, PosD l n p → Q (p : Nat) (foundD l p n) h) : C_draft_Draft_file_File_find B (some ⟨k, 0, none⟩) n h Q := by
  refine C_draft_Draft_file_File_find.of ?_
  unfold S_draft_Draft_file_File_find
  obtain ⟨a, m, c, rfl⟩ := Row.slice R
  obtain ⟨rfl, hrd⟩ := Row.rd (B := B) R entC_file_File_len (by omega)
  exact ⟨_, rfl, .inl ⟨a, _, c, E.cell i A.p rfl, bsearch_file_File_wp (hrd h fun k o e => E.at (i + 1) (by rw [A.q, e])) s hl fun p K => Fin.of (hQ p K)⟩⟩
end
end Go.Proofs.YtlehephbflgblaaGreat.H
namespace Go.Proofs.YtlehephbflgblaaGreat.H
open Go Go.RowKit
set_option linter.unusedVariables false
set_option maxRecDepth 100000
abbrev DFL := List (Int × (Bool × ByteArray))
section
variable {B : RO} {h0 h h' : Heap} {L : List (Option (Nat × AObj))} {r : Option (Nat × AObj)} {i k k3 : Nat} {a : Option Addr} {m c : Nat} {v : Value} {l : DFL} {n : Int}
theorem ins_file_File_eq {a5 : Option Addr} {n n6 c7 : Nat} {i : Int} {Q : Option Addr → Nat → Nat → Heap → Prop} : S_slices_Insert_s_draft_entry_file_File_draft_entry_file_File B a n c i a5 n6 c7 h Q = InsP PG TY.s_draft_entry_file_File 3 TY.bool TY.int (fun B => C_slices_rotateRight_draft_entry_file_File B) B a n c i a5 n6 c7 h Q := by
  unfold S_slices_Insert_s_draft_entry_file_File_draft_entry_file_File InsP
  congr
theorem put_file_File_wp {n : Int} {x : Bool × ByteArray} {Q : Bool → Heap → Prop} (E : Keep B h0 L h) (A : DAt_file_File L i k v r) (R : DRow_file_File r v l) (s : SortD l) (hl : l.length ≤ 100000) (hQ : ∀ v' r' h', DRow_file_File r' v' (insD l n x) → Keep B h0 ((L.set i (some (k, drO_file_File v'))).set (i + 1) r') h' → Q true h') : C_draft_Draft_file_File_Put B (some ⟨k, 0, none⟩) n x.1 x.2 h Q := by
  refine C_draft_Draft_file_File_Put.of ?_
  unfold S_draft_Draft_file_File_Put
  have hil : i < L.length := (List.getElem?_eq_some_iff.1 A.p).1
  have hil1 : i + 1 < L.length := (List.getElem?_eq_some_iff.1 A.q).1
  intro k6 a6 b6 h7 e7
  have E0 : Keep B h0 (L ++ [some (k6, .vec TY.file_File (plains [.bool x.1, .string x.2]) 2)]) h7 := E.made a6 b6 e7
  have A0 : DAt_file_File (L ++ [some (k6, .vec TY.file_File (plains [.bool x.1, .string x.2]) 2)]) i k v r := ⟨up_app _ A.p, up_app _ A.q⟩
  have c6 : ∀ {h1 : Heap}, h1 k6 = some (.vec TY.file_File (plains [.bool x.1, .string x.2]) 2) → CellsAt B h1 ⟨k6, 0, none⟩ 0 [.bool x.1, .string x.2] := fun g => ⟨cellH_vec g rfl, cellH_vec g rfl, trivial⟩
  refine ⟨fun e => (by cases e), fun _ => find_file_File_wp E0 A0 R s (by omega) fun p K => ⟨fun hf => ?_, fun hf => ?_⟩⟩
  · obtain ⟨y, hy, rfl⟩ := foundD_some hf
    have hpl := (List.getElem?_eq_some_iff.1 hy).1
    have hi := insD_old (v := x) K hf
    obtain ⟨a, m, c, rfl⟩ := Row.slice R
    have hm := DRow_file_File.len R
    subst hm
    have hfl := flatMap_length entC_file_File_len l
    rcases R with ⟨_, e1, e2⟩ | ⟨kr, m', c', nn, js, e0, e1, e3, e4, e5⟩
    · rw [e2] at hfl; simp at hfl; omega
    · cases e1
      have hq := A0.q
      rw [e0] at hq
      have hsp := flatMap_splitR (cells := entC_file_File) l p hpl
      have hly : l[p] = y := by rw [List.getElem?_eq_getElem hpl] at hy; exact Option.some.inj hy
      have htl : ((l.take p).flatMap entC_file_File).length = p * 3 := by rw [flatMap_length entC_file_File_len, List.length_take]; omega
      have hle : (l.length : Nat) * 3 ≤ nn := Nat.le_trans (Nat.mul_le_mul_right _ e4) e5
      obtain ⟨h32, st, E2⟩ := E0.storesV (i + 1) (k := kr) (nn := nn) (t := TY.draft_entry_file_File) (fs := (l.take p).flatMap entC_file_File ++ [.int .i64 y.1]) (gs := [.bool y.2.1, .string y.2.2] ++ ((l.drop (p + 1)).flatMap entC_file_File ++ js)) (by
        rw [hq, hsp, hly]; simp [entC_file_File, List.append_assoc]) [.bool x.1, .string x.2] (by simp [isOne]) (p * 3 + 1) (by rw [List.length_append, htl]; rfl) (by simp; omega)
      refine ⟨_, rfl, _, _, _, E0.cell i A0.p rfl, _, _, c6 E0.last, _, rfl, by omega, by omega, h32, ?_, ?_⟩
      · rw [addr_more, addr_more, Nat.zero_add, Int.toNat_natCast]; exact st
      · have hs : L.set i (some (k, drO_file_File (.slice (some ⟨kr, 0, none⟩) l.length c))) = L := by
          obtain ⟨hl, e⟩ := List.getElem?_eq_some_iff.1 A.p
          rw [← e]; exact List.set_getElem_self hl
        rw [List.set_append_left _ _ hil1] at E2
        refine Fin.of (hQ (.slice (some ⟨kr, 0, none⟩) l.length c) _ h32 (.inr ⟨kr, l.length, c, nn, js, rfl, rfl, ?_, e4, e5⟩) ?_)
        · rw [hi, flatMap_length entC_file_File_len, List.length_set]
        · rw [hs, hi, flatMap_setR _ _ _ hpl]
          refine cast ?_ E2.pop
          congr 6
          simp [entC_file_File, List.append_assoc]
  · have hi := insD_new (v := x) K hf
    obtain ⟨a, m, c, rfl⟩ := Row.slice R
    have hm := DRow_file_File.len R
    subst hm
    have hfl := flatMap_length entC_file_File_len l
    refine ⟨_, rfl, _, _, _, E0.cell i A0.p rfl, _, _, c6 E0.last, fun k15 a15 b15 h16 e16 => ?_⟩
    have E1 := E0.made a15 b15 e16
    have A1 : DAt_file_File (L ++ [some (k6, .vec TY.file_File (plains [.bool x.1, .string x.2]) 2)] ++ [some (k15, .vec TY.draft_entry_file_File (plains (entC_file_File (n, x))) 3)]) i k (.slice a l.length c) r := ⟨up_app _ A0.p, up_app _ A0.q⟩
    refine ⟨E1.cell i A1.p rfl, c6 (E1.at L.length (up_app _ (by rw [List.getElem?_append_right (Nat.le_refl _), Nat.sub_self]; rfl))), ?_⟩
    refine C_slices_Insert_s_draft_entry_file_File_draft_entry_file_File.of ?_
    rw [ins_file_File_eq]
    refine insP_wp TK.slc_ent_file_File TK.zero_ent_file_File rfl (by omega) (by omega) TK.sl_ent_file_File TK.int_ent_file_File (by decide) E1 (i + 1) A1.q R ?_ (L.length + 1) (kx := k15) (ys := entC_file_File (n, x)) (by rw [List.getElem?_append_right (by simp), List.length_append]; simp; rfl) rfl (entC_file_File_one _) (by omega) p K.le (by rw [hfl]; omega) ?_
    · intro y hy
      obtain ⟨z, _, hz⟩ := List.mem_flatMap.1 hy
      exact entC_file_File_one z y hz
    · intro a' c' r' h17 R' E2
      rw [List.append_assoc, List.set_append_left _ _ hil1] at E2
      have hp2 : (L.set (i + 1) r' ++ ([some (k6, .vec TY.file_File (plains [.bool x.1, .string x.2]) 2)] ++ [some (k15, .vec TY.draft_entry_file_File (plains (entC_file_File (n, x))) 3)]))[i]? = some (some (k, drO_file_File (.slice a l.length c))) := up_app _ (by rw [List.getElem?_set_ne (by omega)]; exact A.p)
      have g6 := E2.at L.length (by rw [List.getElem?_append_right (by simp), List.length_set, Nat.sub_self]; rfl)
      refine ⟨E2.cell i hp2 rfl, c6 g6, ?_⟩
      have E3 := E2.popL
      have hp3 : (L.set (i + 1) r')[i]? = some (some (k, drO_file_File (.slice a l.length c))) := by rw [List.getElem?_set_ne (by omega)]; exact A.p
      obtain ⟨es, E4⟩ := E3.store i 0 (.slice a' (l.length + 1) c') hp3 rfl
      refine ⟨_, rfl, _, es, Fin.of (hQ (.slice a' (l.length + 1) c') r' _ ?_ ?_)⟩
      · rw [hi]
        unfold DRow_file_File
        have e1 : (l.flatMap entC_file_File).take (p * 3) = (l.take p).flatMap entC_file_File := take_flatMap entC_file_File_len l p
        have e2 : (l.flatMap entC_file_File).drop (p * 3) = (l.drop p).flatMap entC_file_File := by
          have h2 : l.flatMap entC_file_File = (l.take p).flatMap entC_file_File ++ (l.drop p).flatMap entC_file_File := by rw [← List.flatMap_append, List.take_append_drop]
          rw [h2, List.drop_left']
          rw [flatMap_length entC_file_File_len, List.length_take, Nat.min_eq_left K.le]
        rw [e1, e2] at R'
        rw [List.flatMap_append, List.flatMap_cons, ← List.append_assoc]
        exact R'
      · rw [List.set_comm _ _ (by omega)] at E4
        exact E4
def fdallF (k3 : Nat) : Value := Value.func (.func FN.draft_Draft_file_File_All_1) #[] #[(Value.pointer (some ⟨k3, 0, none⟩))]
def encDF (x : Int × (Bool × ByteArray)) : List Value := [.int .i64 x.1, .agg #[.bool x.2.1, .string x.2.2]]
def fdG (k3 k : Nat) (v : Value) (r : Option (Nat × AObj)) (h : Heap) : Prop :=
  h k3 = some (.vec TY.p_draft_Draft_file_File [.plain (.pointer (some ⟨k, 0, none⟩))] 1) ∧ h k = some (drO_file_File v) ∧ ∀ k o, r = some (k, o) → h k = some o
theorem fdG_ins {k3 kk : Nat} {v : Value} {r : Option (Nat × AObj)} : Ins (fdG k3 kk v r) := by
  rintro h k o hk ⟨g1, g2, g3⟩
  exact ⟨Heap.get_new hk g1, Heap.get_new hk g2, fun k' o' e => Heap.get_new hk (g3 k' o' e)⟩
theorem fdall_wp {p : Option Addr} {Q : Value → Heap → Prop} (hQ : ∀ k, h k = none → B k = none → Q (fdallF k) (h.set k (.vec TY.p_draft_Draft_file_File [.plain (.pointer p)] 1))) : C_draft_Draft_file_File_All B p h Q := by
  refine C_draft_Draft_file_File_All.of ?_
  unfold S_draft_Draft_file_File_All
  intro k a1 b1 h4 e4
  subst e4
  exact Fin.of (hQ k a1 b1)
theorem fdall_iter (R : DRow_file_File r v l) (hlen : l.length ≤ 100000) : Iter PG B (fdallF k3) (l.map encDF) (fdG k3 k v r) := by
  refine ⟨_, _, _, rfl, TG.draft_Draft_file_File_All_1, fun y J X h hy hG h0 hcall => ?_⟩
  have main : C_draft_Draft_file_File_All_1 B y ⟨k3, 0, none⟩ h (fun h' => Fin B h' (fun h'' => J (l.map encDF).length h'' ∨ X h'')) := by
    refine C_draft_Draft_file_File_All_1.of ?_
    unfold S_draft_Draft_file_File_All_1
    obtain ⟨a, m, c, rfl⟩ := Row.slice R
    obtain ⟨rfl, hrd⟩ := Row.rd (B := B) R entC_file_File_len (by omega)
    obtain ⟨g1, g2, g3⟩ := hG 0 h h0
    refine ⟨_, cellH_vec g1 rfl, fun e => (by cases e), fun _ => ⟨_, cellH_vec g1 rfl, _, rfl, .inl ⟨a, _, c, cellH_vec g2 rfl, ?_⟩⟩⟩
    refine ⟨fun i m' h' => ∃ j : Nat, j ≤ l.length ∧ i = j ∧ m' = l.length - j ∧ J j h', l.length, Fin.of ⟨0, by omega, rfl, by omega, h0⟩, ?_⟩
    rintro _ _ h13 ⟨j, hj, rfl, rfl, hJ⟩
    obtain ⟨g1, g2, g3⟩ := hG j h13 hJ
    refine ⟨fun hlt => ?_, fun hge => Fin.of ?_⟩
    · have hj' : j < l.length := by omega
      have hx := List.getElem?_eq_getElem hj'
      generalize l[j] = x at hx
      obtain ⟨A, e, _, q⟩ := hrd h13 g3 j _ hx
      refine ⟨A, e, by omega, hlt, x.1, x.2.1, x.2.2, q, fun k24 a24 b24 h25 e25 => ?_⟩
      obtain ⟨g25, l25, -⟩ := Heap.made a24 e25
      refine ⟨_, stores_whole g25 rfl (by simp) (by simp [isOne]) (by simp), ?_⟩
      generalize e26 : h25.set k24 _ = h26
      obtain ⟨g26, -, -⟩ := Heap.put e26
      refine ⟨_, cellH_vec g26 rfl, _, _, ⟨cellH_vec g26 rfl, cellH_vec g26 rfl, trivial⟩, ?_⟩
      have w : Wk B h13 h26 := by
        rw [← e26, e25, Heap.set_set]; exact Wk.new a24 b24
      have hc := hcall j h13 (encDF x) (by rw [List.getElem?_map, hx]; rfl) hJ
      refine CallV.mono ?_ (hc.weaken w)
      rintro v h27 ⟨h28, t1, h29, t2, hor⟩
      rcases hor with ⟨rfl, hJ'⟩ | ⟨rfl, hX⟩
      · refine ⟨true, rfl, fun _ => ⟨h29, t1.trans t2, l.length - (j + 1), by omega, j + 1, by omega, ?_, rfl, hJ'⟩, fun e => by cases e⟩
        rw [w64 (by omega) (by omega)]; omega
      · exact ⟨false, rfl, fun e => (by cases e), fun _ => ⟨h29, t1.trans t2, Fin.of (.inr hX)⟩⟩
    · have : j = l.length := by omega
      subst this
      refine Fin.of (.inl ?_)
      rw [List.length_map]
      exact hJ
  exact Spec.mono main fun v h' q => q.2
end
end Go.Proofs.YtlehephbflgblaaGreat.H
namespace Go.Proofs.YtlehephbflgblaaGreat.H
open Go
set_option linter.unusedVariables false
set_option maxRecDepth 100000
abbrev FileS := Bool × ByteArray
def slotF (x : FileS × Int) : List Value := [.bool x.1.1, .string x.1.2, .int .i64 x.2]
theorem slotF_len (x : FileS × Int) : (slotF x).length = 3 := rfl
theorem slotF_one (x : FileS × Int) : ∀ y ∈ slotF x, isOne y = true := fun y hy => by simp [slotF] at hy; rcases hy with rfl | rfl | rfl <;> rfl
theorem TK.slc_fslot : slcB PG TY.s_cell_slot_file_File = some (TY.cell_slot_file_File, 3, 32) := by kernel_rfl
theorem TK.zero_fslot : zeroB PG TY.cell_slot_file_File = some [.bool false, .string ByteArray.empty, .int .i64 0] := by kernel_rfl
theorem TK.sl_fslot : slT PG TY.s_cell_slot_file_File = true := by kernel_rfl
def FRow (r : Option (Nat × AObj)) (v : Value) (l : List (FileS × Int)) : Prop := Row r v TY.cell_slot_file_File 3 (l.flatMap slotF)
def frO (v : Value) : AObj := .vec TY.cell_Row_file_File (plains [v]) 1
def tomO (kR : Nat) : AObj := .vec TY.tome_Tome (plains [.pointer (some ⟨kR, 0, none⟩)]) 1
def fileAt (l : List (FileS × Int)) (i : Int) : FileS × Int := if 0 ≤ i then (l[i.toNat]?).getD ((false, ByteArray.empty), 0) else ((false, ByteArray.empty), 0)
theorem fileAt_in {l : List (FileS × Int)} {i : Int} (h0 : 0 ≤ i) (h1 : i.toNat < l.length) : fileAt l i = l[i.toNat] := by
  rw [fileAt, if_pos h0, List.getElem?_eq_getElem h1]; rfl
theorem fileAt_out {l : List (FileS × Int)} {i : Int} (hn : ¬ (0 ≤ i ∧ i < (l.length : Int))) : fileAt l i = ((false, ByteArray.empty), 0) := by
  unfold fileAt
  split
  · rw [List.getElem?_eq_none (by omega)]; rfl
  · rfl
section
variable {B : RO} {h0 h h' : Heap} {L : List (Option (Nat × AObj))} {r : Option (Nat × AObj)} {i kT kR : Nat} {v : Value} {l : List (FileS × Int)}
theorem fnew_wp {n : Int} {b : Bool} {s : ByteArray} {Q : Option Addr → Heap → Prop} (hn : n ≤ 1000)
    (hQ : ∀ k v r h', FRow r v (List.replicate n.toNat ((b, s), 0)) → Keep B h [some (k, frO v), r] h' → Q (some ⟨k, 0, none⟩) h') : C_cell_New_file_File B n b s h Q := by
  refine C_cell_New_file_File.of ?_
  unfold S_cell_New_file_File
  intro k5 a5 b5 h6 e6 k7 a7 b7 h8 e8
  have E := ((Keep.nil B h).made a5 b5 e6).made a7 b7 e8
  refine ⟨fun i m h' => ∃ (j : Nat) (v : Value) (r : Option (Nat × AObj)), (j : Int) ≤ max n 0 ∧ i = j ∧ m = n.toNat - j ∧ FRow r v (List.replicate j ((b, s), 0)) ∧ Keep B h [some (k5, .vec TY.file_File (plains [.bool b, .string s]) 2), some (k7, frO v), r] h', n.toNat, Fin.of ⟨0, _, none, by omega, rfl, by omega, Row.nil _ _, E.gap⟩, ?_⟩
  clear E e8 e6
  rintro _ _ h10 ⟨j, v, r, hj, rfl, rfl, R, E⟩
  refine ⟨fun hlt => ?_, fun hge => Fin.of ?_⟩
  · obtain ⟨a20, n21, c22, rfl⟩ := Row.slice R
    have hfl := flatMap_length slotF_len (List.replicate j ((b, s), (0 : Int)))
    rw [List.length_replicate] at hfl
    refine ⟨a20, n21, c22, E.cell 1 rfl rfl, _, _, ⟨E.cell 0 rfl rfl, E.cell 0 rfl rfl, trivial⟩, fun k28 a28 b28 h29 e29 => ?_⟩
    have E1 := E.made a28 b28 e29
    refine ⟨E1.cell 1 rfl rfl, ⟨E1.cell 0 rfl rfl, E1.cell 0 rfl rfl, trivial⟩, ?_⟩
    refine E.push1 2 rfl R TK.slc_fslot TK.zero_fslot rfl (by omega) (by omega) TK.sl_fslot rfl (by simp [isOne]) (by rw [hfl]; simp; omega) a28 b28 e29 fun a' m' c' r' h' R' E' => ?_
    obtain ⟨es, E2⟩ := E'.store 1 0 (.slice a' m' c') rfl rfl
    refine ⟨a', m', c', rfl, E'.cell 1 rfl rfl, ⟨E'.cell 0 rfl rfl, E'.cell 0 rfl rfl, trivial⟩, _, es, Fin.of ⟨n.toNat - (j + 1), by omega, j + 1, _, r', by omega, ?_, rfl, ?_, E2⟩⟩
    · rw [w64 (by omega) (by omega)]; omega
    · unfold FRow
      rw [List.replicate_succ', List.flatMap_append]
      exact R'
  · have : j = n.toNat := by omega
    subst this
    exact hQ _ _ _ _ R (E.sub2 1 2 rfl rfl)
structure FAt (L : List (Option (Nat × AObj))) (i : Nat) (kR : Nat) (v : Value) (r : Option (Nat × AObj)) : Prop where
  p : L[i]? = some (some (kR, frO v))
  q : L[i + 1]? = some r
theorem fis_wp {n : Int} {Q : Bool → Heap → Prop} (E : Keep B h0 L h) (A : FAt L i kR v r) (R : FRow r v l) (hQ : Q (decide (0 ≤ n ∧ n < (l.length : Int))) h) : C_cell_Row_file_File_is B (some ⟨kR, 0, none⟩) n h Q := by
  refine C_cell_Row_file_File_is.of ?_
  unfold S_cell_Row_file_File_is
  obtain ⟨a, m, c, rfl⟩ := Row.slice R
  obtain ⟨rfl, -⟩ := Row.rd (B := B) R slotF_len (by omega)
  refine ⟨fun e => (by cases e), fun _ => ⟨fun h1 => ⟨_, rfl, .inl ⟨a, _, c, E.cell i A.p rfl, Fin.of ?_⟩⟩, fun h1 => Fin.of ?_⟩⟩
  · have : decide (n < (l.length : Int)) = decide (0 ≤ n ∧ n < (l.length : Int)) := by rw [decide_eq_decide]; exact ⟨fun x => ⟨by omega, x⟩, fun x => x.2⟩
    rw [this]; exact hQ
  · rw [decide_eq_false (by omega)] at hQ; exact hQ
theorem fset_wp {n ver : Int} {b : Bool} {s : ByteArray} {Q : Bool → Heap → Prop} (E : Keep B h0 L h) (A : FAt L i kR v r) (R : FRow r v l)
    (hF : ¬ (0 ≤ n ∧ n < (l.length : Int)) → ∀ h', Keep B h0 L h' → Q false h') (hT : 0 ≤ n → n.toNat < l.length → ∀ r' h', FRow r' v (l.set n.toNat ((b, s), ver)) → Keep B h0 (L.set (i + 1) r') h' → Q true h') : C_cell_Row_file_File_Set B (some ⟨kR, 0, none⟩) n b s ver h Q := by
  refine C_cell_Row_file_File_Set.of ?_
  unfold S_cell_Row_file_File_Set
  intro k7 a7 b7 h8 e8
  have E1 := E.made a7 b7 e8
  let o7 : AObj := .vec TY.file_File (plains [.bool b, .string s]) 2
  have A1 : FAt (L ++ [some (k7, o7)]) i kR v r := ⟨up_app _ A.p, up_app _ A.q⟩
  have E1 : Keep B h0 (L ++ [some (k7, o7)]) h8 := E1
  refine fis_wp E1 A1 R ⟨fun hD => ?_, fun hD => Fin.of (hF (by simpa using hD) _ E1.pop)⟩
  rw [decide_eq_true_eq] at hD
  obtain ⟨a, m, c, rfl⟩ := Row.slice R
  obtain ⟨rfl, -⟩ := Row.rd (B := B) R slotF_len (by omega)
  obtain ⟨A18, h20, r', e1, st, R', E2⟩ := E1.rowSet (i + 1) A1.q R slotF_len (by omega) n.toNat (by omega) ((b, s), ver) (slotF_one _)
  have g := E1.last
  refine ⟨_, rfl, a, _, c, E1.cell i A1.p rfl, _, _, ⟨cellH_vec g rfl, cellH_vec g rfl, trivial⟩, A18, e1, hD.1, hD.2, h20, st, Fin.of (hT hD.1 (by omega) r' h20 R' ?_)⟩
  rw [List.set_append_left _ _ (List.getElem?_eq_some_iff.1 A.q).1] at E2
  exact E2.pop
theorem fget_wp {n : Int} {Q : Bool → ByteArray → Int → Heap → Prop} (E : Keep B h0 L h) (A : FAt L i kR v r) (R : FRow r v l)
    (hQ : ∀ h', Keep B h0 L h' → Q (fileAt l n).1.1 (fileAt l n).1.2 (fileAt l n).2 h') : C_cell_Row_file_File_Get B (some ⟨kR, 0, none⟩) n h Q := by
  refine C_cell_Row_file_File_Get.of ?_
  unfold S_cell_Row_file_File_Get
  intro k6 a6 b6 h7 e7
  have E1 := E.made a6 b6 e7
  have g := E1.last
  have A1 : FAt (L ++ [some (k6, AObj.vec TY.file_File (plains [.bool false, .string ByteArray.empty]) 2)]) i kR v r := ⟨up_app _ A.p, up_app _ A.q⟩
  refine fis_wp E1 A1 R ⟨fun hD => ?_, fun hD => ?_⟩
  · rw [decide_eq_true_eq] at hD
    obtain ⟨a, m, c, rfl⟩ := Row.slice R
    obtain ⟨rfl, hrd⟩ := Row.rd (B := B) R slotF_len (by omega)
    have hi : n.toNat < l.length := by omega
    obtain ⟨A27, e1, _, q1, q2, q3, _⟩ := hrd h7 (fun k o e => E1.at (i + 1) (by rw [A1.q, e])) n.toNat _ (List.getElem?_eq_getElem hi)
    have hf := hQ
    rw [fileAt_in hD.1 hi] at hf
    have q3' : cellH B h7 (Addr.add (Addr.add A27 (n.toNat * 3)) 2) = some (.int .i64 l[n.toNat].2) := q3
    refine ⟨_, rfl, a, _, c, E1.cell i A1.p rfl, A27, e1, hD.1, hD.2, _, _, ⟨q1, q2, trivial⟩, _, rfl, a, _, c, E1.cell i A1.p rfl, A27, e1, hD.1, hD.2, _, q3', ?_⟩
    refine ⟨_, stores_whole g rfl (by simp) (by simp [isOne]) (by simp), ?_⟩
    have E2 := E1.putLast (.vec TY.file_File (plains [.bool l[n.toNat].1.1, .string l[n.toNat].1.2]) 2)
    have A2 : FAt (L ++ [some (k6, AObj.vec TY.file_File (plains [.bool l[n.toNat].1.1, .string l[n.toNat].1.2]) 2)]) i kR (.slice a l.length c) r := ⟨up_app _ A.p, up_app _ A.q⟩
    obtain ⟨A', e1', _, t1, t2, t3, _⟩ := hrd _ (fun k o e => E2.at (i + 1) (by rw [A2.q, e])) n.toNat _ (List.getElem?_eq_getElem hi)
    rw [e1] at e1'
    cases e1'
    refine ⟨E2.cell i A2.p rfl, ⟨t1, t2, trivial⟩, E2.cell i A2.p rfl, t3, _, _, ⟨cellH_vec E2.last rfl, cellH_vec E2.last rfl, trivial⟩, Fin.of (hf _ E2.pop)⟩
  · rw [decide_eq_false_iff_not] at hD
    rw [fileAt_out hD] at hQ
    intro k10 a10 b10 h11 e11
    have E2 := E1.made a10 b10 e11
    have g2 := E2.last
    refine ⟨_, _, ⟨cellH_vec g2 rfl, cellH_vec g2 rfl, trivial⟩, ?_⟩
    have g6 : h11 k6 = some (.vec TY.file_File (plains [.bool false, .string ByteArray.empty]) 2) := E2.at L.length (by rw [List.append_assoc, List.getElem?_append_right (Nat.le_refl _), Nat.sub_self]; rfl)
    refine ⟨_, stores_whole g6 rfl (by simp) (by simp [isOne]) (by simp), ?_⟩
    have E3 : Keep B h0 L (h11.set k6 (.vec TY.file_File (plains [.bool false, .string ByteArray.empty]) 2)) := by
      rw [Heap.set_self _ _ _ g6]
      exact E2.pop.pop
    exact ⟨_, _, ⟨cellH_vec (Heap.set_same _ _ _) rfl, cellH_vec (Heap.set_same _ _ _) rfl, trivial⟩, Fin.of (hQ _ E3)⟩
structure TomeAt (L : List (Option (Nat × AObj))) (i kT kR : Nat) (v : Value) (r : Option (Nat × AObj)) : Prop where
  p : L[i]? = some (some (kT, tomO kR))
  f : FAt L (i + 1) kR v r
def tomE (kT kR : Nat) (v : Value) (r : Option (Nat × AObj)) : List (Option (Nat × AObj)) := [some (kT, tomO kR), some (kR, frO v), r]
def goodF (b : Bool) (s : ByteArray) : Bool := decide (s.size ≤ 32) && (b || decide (s = ByteArray.mk #[]))
theorem goodF_wp {b : Bool} {s : ByteArray} {Q : Bool → Heap → Prop} (hQ : ∀ h', Wk B h h' → Q (goodF b s) h') : C_file_Good B b s h Q := by
  refine C_file_Good.of ?_
  unfold S_file_Good
  intro k4 a4 b4 h5 e5
  have w : Wk B h h5 := by rw [e5]; exact Wk.new a4 b4
  have g : h5 k4 = some (.vec TY.file_File (plains [.bool b, .string s]) 2) := by rw [e5]; exact Heap.set_same _ _ _
  have hq := hQ h5 w
  unfold goodF at hq
  refine ⟨_, cellH_vec g rfl, fun h1 => ⟨_, cellH_vec g rfl, fun hb => Fin.of ?_, fun hb => ⟨_, cellH_vec g rfl, Fin.of ?_⟩⟩, fun h1 => Fin.of ?_⟩
  · subst hb
    rw [decide_eq_true (by omega)] at hq; exact hq
  · subst hb
    rw [decide_eq_true (by omega)] at hq; exact hq
  · rw [decide_eq_false (by omega)] at hq; exact hq
def setB (l : List (FileS × Int)) (n : Int) (b : Bool) (s : ByteArray) : Bool := goodF b s && decide (0 ≤ n ∧ n < (l.length : Int))
def setF (l : List (FileS × Int)) (n : Int) (b : Bool) (s : ByteArray) (ver : Int) : List (FileS × Int) := if setB l n b s = true then l.set n.toNat ((b, s), ver) else l
theorem setF_len (l : List (FileS × Int)) (n : Int) (b : Bool) (s : ByteArray) (ver : Int) : (setF l n b s ver).length = l.length := by unfold setF; split <;> simp
theorem tset_wp {n ver : Int} {b : Bool} {s : ByteArray} {Q : Bool → Heap → Prop} (E : Keep B h0 L h) (A : TomeAt L i kT kR v r) (R : FRow r v l)
    (hQ : ∀ r' h', FRow r' v (setF l n b s ver) → Keep B h0 (L.set (i + 2) r') h' → Q (setB l n b s) h') : C_tome_Tome_Set B (some ⟨kT, 0, none⟩) n b s ver h Q := by
  refine C_tome_Tome_Set.of ?_
  unfold S_tome_Tome_Set
  intro k7 a7 b7 h8 e8
  have E1 := E.made a7 b7 e8
  have g7 := E1.last
  have no : setB l n b s = false → ∀ h', Keep B h0 L h' → Q false h' := fun hn h' E' => by
    have h1 : setF l n b s ver = l := by rw [setF, hn]; rfl
    have h2 : L.set (i + 2) r = L := by
      obtain ⟨hl, rfl⟩ := List.getElem?_eq_some_iff.1 A.f.q
      exact List.set_getElem_self hl
    have := hQ r h' (by rw [h1]; exact R) (by rw [h2]; exact E')
    rw [hn] at this; exact this
  refine ⟨fun e => (by cases e), fun _ => ⟨_, _, ⟨cellH_vec g7 rfl, cellH_vec g7 rfl, trivial⟩, goodF_wp fun h18 w => ?_⟩⟩
  have E2 := E1.wk w
  have g := E2.last
  refine ⟨fun hg => ?_, fun hg => ?_⟩
  · have A2 : FAt (L ++ [some (k7, AObj.vec TY.file_File (plains [.bool b, .string s]) 2)]) (i + 1) kR v r := ⟨up_app _ A.f.p, up_app _ A.f.q⟩
    have hset : C_cell_Row_file_File_Set B (some ⟨kR, 0, none⟩) n b s ver h18 (fun b28 h27 => CellsAt B h27 ⟨k7, 0, none⟩ 0 [.bool b, .string s] ∧ Fin B h27 (Q b28)) := by
      refine fset_wp E2 A2 R (fun hn h' E' => ⟨⟨cellH_vec E'.last rfl, cellH_vec E'.last rfl, trivial⟩, Fin.of (no ?_ h' E'.pop)⟩) fun h1 h2 r' h' R' E' => ?_
      · rw [setB, decide_eq_false hn, Bool.and_false]
      · rw [List.set_append_left _ _ (List.getElem?_eq_some_iff.1 A.f.q).1] at E'
        have hb : setB l n b s = true := by rw [setB, hg, decide_eq_true ⟨h1, by omega⟩]; rfl
        have := hQ r' h' (by rw [setF, if_pos hb]; exact R') E'.pop
        rw [hb] at this
        exact ⟨⟨cellH_vec E'.last rfl, cellH_vec E'.last rfl, trivial⟩, Fin.of this⟩
    refine ⟨⟨cellH_vec g rfl, cellH_vec g rfl, trivial⟩, _, rfl, ⟨_, E2.cell i (up_app _ A.p) rfl, _, _, ⟨cellH_vec g rfl, cellH_vec g rfl, trivial⟩, hset⟩, ⟨_, _, ⟨cellH_vec g rfl, cellH_vec g rfl, trivial⟩, _, E2.cell i (up_app _ A.p) rfl, hset⟩⟩
  · have hn : setB l n b s = false := by rw [setB, hg]; rfl
    exact ⟨⟨cellH_vec g rfl, cellH_vec g rfl, trivial⟩, Fin.of (no hn _ E2.pop), Fin.of (no hn _ E2.pop)⟩
theorem tget_wp {n : Int} {Q : Bool → ByteArray → Int → Heap → Prop} (E : Keep B h0 L h) (A : TomeAt L i kT kR v r) (R : FRow r v l)
    (hQ : ∀ h', Keep B h0 L h' → Q (fileAt l n).1.1 (fileAt l n).1.2 (fileAt l n).2 h') : C_tome_Tome_Get B (some ⟨kT, 0, none⟩) n h Q := by
  refine C_tome_Tome_Get.of ?_
  unfold S_tome_Tome_Get
  intro k6 a6 b6 h7 e7
  have E1 := E.made a6 b6 e7
  refine ⟨fun e => (by cases e), fun _ => ⟨_, rfl, _, E1.cell i (up_app _ A.p) rfl, ?_⟩⟩
  refine fget_wp E1 ⟨up_app _ A.f.p, up_app _ A.f.q⟩ R fun h15 E2 => ?_
  refine ⟨_, stores_whole E2.last rfl (by simp) (by simp [isOne]) (by simp), ?_⟩
  have E3 := E2.putLast (.vec TY.file_File (plains [.bool (fileAt l n).1.1, .string (fileAt l n).1.2]) 2)
  exact ⟨_, _, ⟨cellH_vec E3.last rfl, cellH_vec E3.last rfl, trivial⟩, Fin.of (hQ _ E3.pop)⟩
theorem tnew_wp {Q : Option Addr → Heap → Prop} (hQ : ∀ kT kR v r h', FRow r v (List.replicate 6 ((false, ByteArray.empty), 0)) → Keep B h (tomE kT kR v r) h' → Q (some ⟨kT, 0, none⟩) h') : C_tome_New B h Q := by
  refine C_tome_New.of ?_
  unfold S_tome_New
  refine fnew_wp (by decide) fun kR v r h2 R E => ?_
  intro k4 a4 b4 h5 e5
  have E1 := E.made a4 b4 e5
  exact Fin.of (hQ k4 kR v r h5 R (E1.sub3 2 0 1 rfl rfl rfl))
end
end Go.Proofs.YtlehephbflgblaaGreat.H
namespace Go.Proofs.YtlehephbflgblaaGreat.H
open Go
set_option linter.unusedVariables false
set_option maxRecDepth 100000
def allF (l : List (FileS × Int)) : List (Int × Bool × ByteArray) := l.zipIdx.map fun p => ((p.2 : Int), p.1.1.1, p.1.1.2)
def filesOf (l : List (FileS × Int)) : List (Int × Bool × ByteArray) := (allF l).filter fun x => x.2.1
def encF (x : Int × Bool × ByteArray) : List Value := [.int .i64 x.1, .agg #[.bool x.2.1, .string x.2.2]]
theorem allF_len (l : List (FileS × Int)) : (allF l).length = l.length := by simp [allF]
theorem allF_get (l : List (FileS × Int)) (i : Nat) : (allF l)[i]? = (l[i]?).map fun x => ((i : Int), x.1.1, x.1.2) := by
  simp [allF, List.getElem?_zipIdx]
  cases l[i]? <;> simp
theorem filter_at {α : Type} (f : α → Bool) : ∀ (l : List α) (q : Nat) (x : α), l[q]? = some x → f x = true → (l.filter f)[((l.take q).filter f).length]? = some x
  | [], q, x, h, _ => by simp at h
  | y :: l, 0, x, h, hf => by
    simp at h; subst h
    simp [List.filter_cons, hf]
  | y :: l, q + 1, x, h, hf => by
    have ih := filter_at f l q x (by simpa using h) hf
    by_cases hy : f y = true
    · simp only [List.take_succ_cons, List.filter_cons, hy, if_true, List.length_cons, List.getElem?_cons_succ]; exact ih
    · simp only [List.take_succ_cons, List.filter_cons, hy, if_false]; exact ih
theorem filter_step {α : Type} (f : α → Bool) (l : List α) (q : Nat) (x : α) (h : l[q]? = some x) : ((l.take (q + 1)).filter f).length = ((l.take q).filter f).length + (if f x = true then 1 else 0) := by
  obtain ⟨hq, rfl⟩ := List.getElem?_eq_some_iff.1 h
  rw [List.take_succ_eq_append_getElem hq, List.filter_append, List.length_append]
  congr 1
  by_cases hf : f l[q] = true
  · simp [List.filter_cons, hf]
  · simp [List.filter_cons, hf]
def fallF (k3 : Nat) : Value := Value.func (.func FN.cell_Row_file_File_All_1) #[] #[(Value.pointer (some ⟨k3, 0, none⟩))]
def tallF (k3 : Nat) : Value := Value.func (.func FN.tome_Tome_All_1) #[] #[(Value.pointer (some ⟨k3, 0, none⟩))]
theorem NilOK.one {y : Value} (h : NilOK y) : isOne y = true := by
  rcases h with ⟨g, a, b, rfl⟩ | ⟨l, a, b, rfl⟩ <;> rfl
theorem plain1 (t : TypeId) (v : Value) : PlainO (.vec t [.plain v] 1) := ⟨t, [v], 1, rfl⟩
section
variable {B : RO} {h0 h h' : Heap} {L : List (Option (Nat × AObj))} {r : Option (Nat × AObj)} {i kT kR k3 m c : Nat} {a : Option Addr} {v : Value} {l : List (FileS × Int)}
def fG (k3 kR : Nat) (v : Value) (r : Option (Nat × AObj)) (h : Heap) : Prop :=
  h k3 = some (.vec TY.p_cell_Row_file_File [.plain (.pointer (some ⟨kR, 0, none⟩))] 1) ∧ h kR = some (frO v) ∧ ∀ k o, r = some (k, o) → h k = some o
theorem fG_ins : Ins (fG k3 kR v r) := by
  rintro h k o hk ⟨g1, g2, g3⟩
  exact ⟨Heap.get_new hk g1, Heap.get_new hk g2, fun k' o' e => Heap.get_new hk (g3 k' o' e)⟩
theorem fall_wp {p : Option Addr} {Q : Value → Heap → Prop} (hQ : ∀ k, h k = none → B k = none → Q (fallF k) (h.set k (.vec TY.p_cell_Row_file_File [.plain (.pointer p)] 1))) : C_cell_Row_file_File_All B p h Q := by
  refine C_cell_Row_file_File_All.of ?_
  unfold S_cell_Row_file_File_All
  intro k a1 b1 h4 e4
  subst e4
  exact Fin.of (hQ k a1 b1)
theorem fall_iter (R : FRow r v l) (hlen : l.length ≤ 100000) : Iter PG B (fallF k3) ((allF l).map encF) (fG k3 kR v r) := by
  refine ⟨_, _, _, rfl, TG.cell_Row_file_File_All_1, fun y J X h hy hG h0 hcall => ?_⟩
  have main : C_cell_Row_file_File_All_1 B y ⟨k3, 0, none⟩ h (fun h' => Fin B h' (fun h'' => J ((allF l).map encF).length h'' ∨ X h'')) := by
    refine C_cell_Row_file_File_All_1.of ?_
    unfold S_cell_Row_file_File_All_1
    obtain ⟨a, m, c, rfl⟩ := Row.slice R
    obtain ⟨rfl, hrd⟩ := Row.rd (B := B) R slotF_len (by omega)
    obtain ⟨g1, g2, g3⟩ := hG 0 h h0
    refine ⟨_, cellH_vec g1 rfl, fun e => (by cases e), fun _ => ⟨_, cellH_vec g1 rfl, _, rfl, .inl ⟨a, _, c, cellH_vec g2 rfl, ?_⟩⟩⟩
    refine ⟨fun i m' h' => ∃ j : Nat, j ≤ l.length ∧ i = j ∧ m' = l.length - j ∧ J j h', l.length, Fin.of ⟨0, by omega, rfl, by omega, h0⟩, ?_⟩
    rintro _ _ h13 ⟨j, hj, rfl, rfl, hJ⟩
    obtain ⟨g1, g2, g3⟩ := hG j h13 hJ
    refine ⟨fun hlt => ?_, fun hge => Fin.of ?_⟩
    · have hj' : j < l.length := by omega
      obtain ⟨A, e, _, q⟩ := hrd h13 g3 j _ (List.getElem?_eq_getElem hj')
      refine ⟨A, e, by omega, hlt, l[j].1.1, l[j].1.2, l[j].2, q, fun k24 a24 b24 h25 e25 => ?_⟩
      obtain ⟨g25, l25, -⟩ := Heap.made a24 e25
      refine ⟨_, stores_whole g25 rfl (by simp) (by simp [isOne]) (by simp), ?_⟩
      generalize e26 : h25.set k24 _ = h26
      obtain ⟨g26, -, -⟩ := Heap.put e26
      refine ⟨_, _, ⟨cellH_vec g26 rfl, cellH_vec g26 rfl, trivial⟩, ?_⟩
      have w : Wk B h13 h26 := by
        rw [← e26, e25, Heap.set_set]; exact Wk.new a24 b24
      have hc := hcall j h13 (encF ((j : Int), l[j].1.1, l[j].1.2)) (by
        rw [List.getElem?_map, allF_get, List.getElem?_eq_getElem hj']; rfl) hJ
      refine CallV.mono ?_ (hc.weaken w)
      rintro v h27 ⟨h28, t1, h29, t2, hor⟩
      rcases hor with ⟨rfl, hJ'⟩ | ⟨rfl, hX⟩
      · refine ⟨true, rfl, fun _ => ⟨h29, t1.trans t2, l.length - (j + 1), by omega, j + 1, by omega, ?_, rfl, hJ'⟩, fun e => by cases e⟩
        rw [w64 (by omega) (by omega)]; omega
      · exact ⟨false, rfl, fun e => (by cases e), fun _ => ⟨h29, t1.trans t2, Fin.of (.inr hX)⟩⟩
    · have : j = l.length := by omega
      subst this
      refine Fin.of (.inl ?_)
      rw [List.length_map, allF_len]
      exact hJ
  exact Spec.mono main fun v h' q => q.2
def tG (k3 kT kR : Nat) (v : Value) (r : Option (Nat × AObj)) (h : Heap) : Prop :=
  h k3 = some (.vec TY.p_tome_Tome [.plain (.pointer (some ⟨kT, 0, none⟩))] 1) ∧ h kT = some (tomO kR) ∧ h kR = some (frO v) ∧ ∀ k o, r = some (k, o) → h k = some o
theorem tG_ins : Ins (tG k3 kT kR v r) := by
  rintro h k o hk ⟨g1, g2, g3, g4⟩
  exact ⟨Heap.get_new hk g1, Heap.get_new hk g2, Heap.get_new hk g3, fun k' o' e => Heap.get_new hk (g4 k' o' e)⟩
theorem tall_wp {p : Option Addr} {Q : Value → Heap → Prop} (hQ : ∀ k, h k = none → B k = none → Q (tallF k) (h.set k (.vec TY.p_tome_Tome [.plain (.pointer p)] 1))) : C_tome_Tome_All B p h Q := by
  refine C_tome_Tome_All.of ?_
  unfold S_tome_Tome_All
  intro k a1 b1 h4 e4
  subst e4
  exact Fin.of (hQ k a1 b1)
theorem tall_iter (R : FRow r v l) (hlen : l.length ≤ 100000) : Iter PG B (tallF k3) ((filesOf l).map encF) (tG k3 kT kR v r) := by
  refine ⟨_, _, _, rfl, TG.tome_Tome_All_1, fun y J X h hy hG h0 hcall => ?_⟩
  have main : C_tome_Tome_All_1 B y ⟨k3, 0, none⟩ h (fun h' => Fin B h' (fun h'' => J ((filesOf l).map encF).length h'' ∨ X h'')) := by
    refine C_tome_Tome_All_1.of ?_
    unfold S_tome_Tome_All_1
    obtain ⟨g1, g2, g3, g4⟩ := hG 0 h h0
    refine ⟨hy.one, fun ky ay by' h4 e4 => ?_⟩
    obtain ⟨tyY, e4⟩ : ∃ ty, h4 = h.set ky (.vec ty [.plain y] 1) := ⟨_, e4⟩
    obtain ⟨gy, ly, fy⟩ := Heap.made ay e4
    refine ⟨_, cellH_vec (ly _ _ g1) rfl, fun e => (by cases e), fun _ => ⟨_, cellH_vec (ly _ _ g1) rfl, _, rfl, _, cellH_vec (ly _ _ g2) rfl, fall_wp fun kc ac bc => ?_⟩⟩
    have hky : kc ≠ ky := Heap.ne_of ac gy
    have it := fall_iter (B := B) (k3 := kc) (kR := kR) R hlen
    let cnt : Nat → Nat := fun q => (((allF l).take q).filter fun x => x.2.1).length
    refine ⟨allF l, fG kc kR v r, fun q h' => ∃ hu, hu ky = none ∧ hu kc = none ∧ h' = (hu.set ky (.vec tyY [.plain y] 1)).set kc (.vec TY.p_cell_Row_file_File [.plain (.pointer (some ⟨kR, 0, none⟩))] 1) ∧ J (cnt q) hu, it, fG_ins, ?_, Fin.of ⟨h, ay, ?_, by rw [e4], h0⟩, ?_, ?_⟩
    · rintro q h' ⟨hu, n1, n2, rfl, hJ⟩
      obtain ⟨u1, u2, u3, u4⟩ := hG _ hu hJ
      have up : ∀ {b : Nat} {o : AObj}, hu b = some o → ((hu.set ky (.vec tyY [.plain y] 1)).set kc (.vec TY.p_cell_Row_file_File [.plain (.pointer (some ⟨kR, 0, none⟩))] 1)) b = some o := fun hb =>
        Heap.get_new (by rw [Heap.set_ne _ _ _ _ hky]; exact n2) (Heap.get_new n1 hb)
      exact ⟨Heap.set_same _ _ _, up u3, fun k o e => up (u4 k o e)⟩
    · rw [e4, Heap.set_ne _ _ _ _ hky] at ac; exact ac
    · rintro q h17 i13 b14 s15 hg ⟨hu, n1, n2, rfl, hJ⟩
      have n2' : (hu.set ky (.vec tyY [.plain y] 1)) kc = none := by rw [Heap.set_ne _ _ _ _ hky]; exact n2
      generalize e17 : (hu.set ky (.vec tyY [.plain y] 1)).set kc (.vec TY.p_cell_Row_file_File [.plain (.pointer (some ⟨kR, 0, none⟩))] 1) = h17
      intro k21 a21 b21 h22 e22
      obtain ⟨g22, -, -⟩ := Heap.made a21 e22
      refine ⟨_, stores_whole g22 rfl (by simp) (by simp [isOne]) (by simp), ?_⟩
      generalize e23 : h22.set k21 _ = h23
      obtain ⟨g23, -, -⟩ := Heap.put e23
      have w : Wk B h17 h23 := by
        rw [← e23, e22, Heap.set_set]; exact Wk.new a21 b21
      have st := filter_step (fun x : Int × Bool × ByteArray => x.2.1) (allF l) q _ hg
      have gky : h17 ky = some (.vec tyY [.plain y] 1) := by
        rw [← e17, Heap.set_ne _ _ _ _ (Ne.symm hky), Heap.set_same]
      refine ⟨b14, cellH_vec g23 rfl, fun hb => ?_, fun hb => ?_⟩
      · subst hb
        refine ⟨y, cellH_vec (w.1 _ _ gky) rfl, _, _, ⟨cellH_vec g23 rfl, cellH_vec g23 rfl, trivial⟩, ?_⟩
        have hat := filter_at (fun x : Int × Bool × ByteArray => x.2.1) (allF l) q _ hg rfl
        have hc := hcall (cnt q) hu (encF (i13, true, s15)) (by
          show ((filesOf l).map encF)[cnt q]? = _
          rw [List.getElem?_map]
          show Option.map encF ((allF l).filter fun x => x.2.1)[cnt q]? = _
          rw [hat]; rfl) hJ
        have h1 := hc.frame1 (ob := .vec tyY [.plain y] 1) n1 by' (plain1 _ _)
        have h2 := h1.frame1 (ob := .vec TY.p_cell_Row_file_File [.plain (.pointer (some ⟨kR, 0, none⟩))] 1) n2' bc (plain1 _ _)
        rw [e17] at h2
        refine CallV.mono ?_ (h2.weaken w)
        rintro v h27 ⟨h28, t1, hx, x1, rfl, hz, z1, rfl, h29, t2, hor⟩
        have z2 : hz kc = none := by rw [Heap.set_ne _ _ _ _ hky] at x1; exact x1
        have lift : Ent B h27 ((h29.set ky (.vec tyY [.plain y] 1)).set kc (.vec TY.p_cell_Row_file_File [.plain (.pointer (some ⟨kR, 0, none⟩))] 1)) :=
          t1.trans (Ent.frame1 x1 bc (plain1 _ _) (Ent.frame1 z1 by' (plain1 _ _) t2))
        have w1 : h29 ky = none := t2.1 _ z1
        have w2 : h29 kc = none := t2.1 _ z2
        have drop : Ent B ((h29.set ky (.vec tyY [.plain y] 1)).set kc (.vec TY.p_cell_Row_file_File [.plain (.pointer (some ⟨kR, 0, none⟩))] 1)) h29 := Ent.forget fun b o hb =>
          Heap.get_new (by rw [Heap.set_ne _ _ _ _ hky]; exact w2) (Heap.get_new w1 hb)
        rcases hor with ⟨rfl, hJ'⟩ | ⟨rfl, hX⟩
        · refine ⟨true, rfl, fun _ => ⟨_, lift, h29, w1, w2, rfl, ?_⟩, fun e => by cases e⟩
          have : cnt (q + 1) = cnt q + 1 := st
          rw [this]; exact hJ'
        · exact ⟨false, rfl, fun e => (by cases e), fun _ => ⟨h29, lift.trans drop, Fin.of (.inr hX)⟩⟩
      · subst hb
        have hf : Ent B h23 h17 := Ent.forget w.1
        refine ⟨h17, hf, hu, n1, n2, e17.symm, ?_⟩
        have : cnt (q + 1) = cnt q := st
        rw [this]; exact hJ
    · rintro h17 ⟨hu, n1, n2, rfl, hJ⟩
      have drop : Ent B ((hu.set ky (.vec tyY [.plain y] 1)).set kc (.vec TY.p_cell_Row_file_File [.plain (.pointer (some ⟨kR, 0, none⟩))] 1)) hu := Ent.forget fun b o hb =>
        Heap.get_new (by rw [Heap.set_ne _ _ _ _ hky]; exact n2) (Heap.get_new n1 hb)
      refine ⟨hu, drop, Fin.of (.inl ?_)⟩
      have e : cnt (allF l).length = ((filesOf l).map encF).length := by
        show (((allF l).take (allF l).length).filter _).length = _
        rw [List.take_length, List.length_map]; rfl
      rw [← e]; exact hJ
  exact Spec.mono main fun v h' q => q.2
end
end Go.Proofs.YtlehephbflgblaaGreat.H
namespace Go.Proofs.YtlehephbflgblaaGreat.H
open Go
set_option linter.unusedVariables false
set_option maxRecDepth 100000
def fileB (x : Int × Bool × ByteArray) : List UInt8 := natI x.1 ++ (natB x.2.2.size ++ bl x.2.2)
def tomeB (l : List (FileS × Int)) : List UInt8 := (filesOf l).flatMap fileB
structure TomeOk (l : List (FileS × Int)) : Prop where
  n6 : l.length = 6
  good : ∀ x ∈ l, goodF x.1.1 x.1.2 = true
theorem TomeOk.size {l : List (FileS × Int)} (k : TomeOk l) : ∀ x ∈ l, x.1.2.size ≤ 32 := fun x hx => by
  have := k.good x hx
  unfold goodF at this
  simp only [Bool.and_eq_true, decide_eq_true_eq] at this
  exact this.1
theorem TomeOk.zero : TomeOk (List.replicate 6 ((false, ByteArray.empty), 0)) := ⟨rfl, fun x hx => by
  rw [List.mem_replicate] at hx
  rw [hx.2]; decide⟩
theorem TomeOk.set {l : List (FileS × Int)} (k : TomeOk l) (n : Int) (b : Bool) (s : ByteArray) (ver : Int) : TomeOk (setF l n b s ver) := by
  refine ⟨by rw [setF_len]; exact k.n6, fun x hx => ?_⟩
  unfold setF at hx
  split at hx
  · rename_i h
    unfold setB at h
    rw [Bool.and_eq_true] at h
    rcases List.mem_or_eq_of_mem_set hx with h1 | h1
    · exact k.good x h1
    · rw [h1]; exact h.1
  · exact k.good x hx
theorem allF_mem {l : List (FileS × Int)} {x : Int × Bool × ByteArray} (h : x ∈ allF l) : ∃ y ∈ l, x.2 = y.1 ∧ 0 ≤ x.1 ∧ x.1 < l.length := by
  obtain ⟨q, hq⟩ := List.getElem?_of_mem h
  rw [allF_get] at hq
  obtain ⟨y, hy, rfl⟩ := Option.map_eq_some_iff.1 hq
  have := (List.getElem?_eq_some_iff.1 hy).1
  exact ⟨y, List.mem_of_getElem? hy, rfl, by simp, by simp only; omega⟩
theorem filesOf_mem {l : List (FileS × Int)} {x : Int × Bool × ByteArray} (h : x ∈ filesOf l) : ∃ y ∈ l, x.2 = y.1 ∧ 0 ≤ x.1 ∧ x.1 < l.length := allF_mem (List.mem_filter.1 h).1
theorem fileB_len (k : (x : Int × Bool × ByteArray) → Prop) {x : Int × Bool × ByteArray} (h1 : x.1 ≤ 1000) (h2 : x.2.2.size ≤ 1000) : (fileB x).length ≤ 1020 := by
  unfold fileB
  have a := natI_length (i := x.1) (by omega)
  have b := natB_length (n := x.2.2.size) (by omega)
  rw [List.length_append, List.length_append, bl_length]
  omega
theorem flat_len {x : Int × Bool × ByteArray} : ∀ (l : List (Int × Bool × ByteArray)), (∀ x ∈ l, x.1 ≤ 1000 ∧ x.2.2.size ≤ 1000) → (l.flatMap fileB).length ≤ 1020 * l.length
  | [], _ => by simp
  | y :: l, h => by
    have h1 := fileB_len (fun _ => True) (h y (by simp)).1 (h y (by simp)).2
    have h2 := flat_len (x := x) l (fun z hz => h z (by simp [hz]))
    rw [List.flatMap_cons, List.length_append, List.length_cons]
    omega
section
variable {B : RO} {h0 h h' : Heap} {L : List (Option (Nat × AObj))} {r : Option (Nat × AObj)} {i kT kR : Nat} {v : Value} {l : List (FileS × Int)}
theorem tbytes_wp {Q : ByteArray → Heap → Prop} (E : Keep B h0 L h) (A : TomeAt L i kT kR v r) (R : FRow r v l) (k : TomeOk l)
    (hQ : ∀ h', Keep B h0 L h' → Q (ba (tomeB l)) h') : C_tome_Tome_Bytes B (some ⟨kT, 0, none⟩) h Q := by
  refine C_tome_Tome_Bytes.of ?_
  unfold S_tome_Tome_Bytes
  intro k3 a3 b3 h4 e4 k5 a5 b5 h6 e6
  have E1 := E.made a3 b3 e4
  have E2 := E1.made a5 b5 e6
  have up2 : ∀ {j : Nat} {x : Option (Nat × AObj)} (y z : List (Option (Nat × AObj))), L[j]? = some x → (L ++ y ++ z)[j]? = some x := fun y z hj => up_app z (up_app y hj)
  have up3 : ∀ {j : Nat} {x : Option (Nat × AObj)} (y z u : List (Option (Nat × AObj))), L[j]? = some x → (L ++ y ++ z ++ u)[j]? = some x := fun y z u hj => up_app u (up_app z (up_app y hj))
  refine ⟨_, storeH_vec E2.last rfl, ?_⟩
  have E3 := E2.putLast (.vec TY.p_stylus_Stylus (plains [.pointer (some ⟨k3, 0, none⟩)]) 1)
  refine tall_wp fun kc ac bc => ?_
  have E4 := E3.new (o := .vec TY.p_tome_Tome [.plain (.pointer (some ⟨kT, 0, none⟩))] 1) ac bc
  have it := tall_iter (B := B) (k3 := kc) (kT := kT) (kR := kR) R (by rw [k.n6]; omega)
  have mid : ∀ (x y z : Option (Nat × AObj)), (L ++ [x] ++ [y] ++ [z])[L.length]? = some x ∧ (L ++ [x] ++ [y] ++ [z])[L.length + 1]? = some y ∧ (L ++ [x] ++ [y] ++ [z])[L.length + 2]? = some z := fun x y z => by
    refine ⟨?_, ?_, ?_⟩ <;> (rw [List.append_assoc, List.append_assoc, List.getElem?_append_right (by omega)]; simp)
  have mset : ∀ (x x' y z : Option (Nat × AObj)) , (L ++ [x] ++ [y] ++ [z]).set L.length x' = L ++ [x'] ++ [y] ++ [z] := fun x x' y z => by
    rw [List.append_assoc, List.append_assoc, List.set_append_right _ _ (Nat.le_refl _), Nat.sub_self, List.append_assoc, List.append_assoc]; rfl
  have hn6 := k.n6
  have small : ∀ x ∈ filesOf l, x.1 ≤ 1000 ∧ x.2.2.size ≤ 1000 := fun x hx => by
    obtain ⟨y, hy, e1, e2, e3⟩ := filesOf_mem hx
    have := k.size y hy
    have e4 : x.2.2 = y.1.2 := by rw [e1]
    exact ⟨by omega, by rw [e4]; omega⟩
  have few : (filesOf l).length ≤ 6 := by
    have := List.length_filter_le (fun x : Int × Bool × ByteArray => x.2.1) (allF l)
    rw [allF_len, k.n6] at this
    exact this
  refine ⟨filesOf l, tG kc kT kR v r, fun q h' => Keep B h0 (L ++ [some (k3, stylO (((filesOf l).take q).flatMap fileB))] ++ [some (k5, .vec TY.p_stylus_Stylus (plains [.pointer (some ⟨k3, 0, none⟩)]) 1)] ++ [some (kc, .vec TY.p_tome_Tome [.plain (.pointer (some ⟨kT, 0, none⟩))] 1)]) h', it, tG_ins, ?_, ?_, ?_, ?_⟩
  · intro q h' E
    exact ⟨E.last, E.at i (up3 _ _ _ A.p), E.at (i + 1) (up3 _ _ _ A.f.p), fun k o e => E.at (i + 2) (by rw [up3 _ _ _ A.f.q, e])⟩
  · have g3 := E4.at L.length (mid _ _ _).1
    refine Fin.ent (styl_new g3) (Fin.of ?_)
    have E5 := E4.put (o' := stylO []) L.length (mid _ _ _).1
    rw [mset] at E5
    exact E5
  · rintro q h14 i10 b11 s12 hg E
    have hx := List.mem_of_getElem? hg
    have sm := small _ hx
    intro k18 a18 b18 h19 e19
    have F1 := E.made a18 b18 e19
    refine ⟨_, stores_whole F1.last rfl (by simp) (by simp [isOne]) (by simp), ?_⟩
    have F2 := F1.putLast (.vec TY.file_File (plains [.bool b11, .string s12]) 2)
    have c5 := F2.cell (L.length + 1) (up_app _ (mid _ _ _).2.1) (j := 0) rfl
    refine ⟨_, c5, ?_⟩
    intro k22 a22 b22 h23 e23
    have F3 := F2.made a22 b22 e23
    have hlen := flat_len (x := (0, false, ByteArray.empty)) ((filesOf l).take q) (fun x hx => small x (List.mem_of_mem_take hx))
    have htl : ((filesOf l).take q).length ≤ 6 := by rw [List.length_take]; omega
    have g3 := F3.at L.length (up_app _ (up_app _ (mid _ _ _).1))
    refine nat1_wp g3 F3.last (fun e => by rw [e, F2.at L.length (up_app _ (mid _ _ _).1)] at a22; cases a22) (by omega) (by omega) ?_
    have F4 := F3.put (o' := stylO (((filesOf l).take q).flatMap fileB ++ natI i10)) L.length (up_app _ (up_app _ (mid _ _ _).1))
    have s4 : (L ++ [some (k3, stylO (((filesOf l).take q).flatMap fileB))] ++ [some (k5, AObj.vec TY.p_stylus_Stylus (plains [.pointer (some ⟨k3, 0, none⟩)]) 1)] ++ [some (kc, AObj.vec TY.p_tome_Tome [.plain (.pointer (some ⟨kT, 0, none⟩))] 1)] ++ [some (k18, AObj.vec TY.file_File (plains [.bool b11, .string s12]) 2)] ++ [some (k22, AObj.vec 3 (plains [Value.int .i64 i10]) 1)]).set L.length (some (k3, stylO (((filesOf l).take q).flatMap fileB ++ natI i10)))
        = L ++ [some (k3, stylO (((filesOf l).take q).flatMap fileB ++ natI i10))] ++ [some (k5, AObj.vec TY.p_stylus_Stylus (plains [.pointer (some ⟨k3, 0, none⟩)]) 1)] ++ [some (kc, AObj.vec TY.p_tome_Tome [.plain (.pointer (some ⟨kT, 0, none⟩))] 1)] ++ [some (k18, AObj.vec TY.file_File (plains [.bool b11, .string s12]) 2)] ++ [some (k22, AObj.vec 3 (plains [Value.int .i64 i10]) 1)] := by
      rw [List.set_append_left _ _ (by simp <;> omega), List.set_append_left _ _ (by simp <;> omega), mset]
    rw [s4] at F4
    have F5 := F4.pop
    refine ⟨_, F5.cell (L.length + 1) (up_app _ (mid _ _ _).2.1) (j := 0) rfl, _, cellH_vec F5.last rfl, ?_⟩
    intro k27 a27 b27 h28 e28
    have F6 := F5.made a27 b27 e28
    have g3' := F6.at L.length (up_app _ (up_app _ (mid _ _ _).1))
    have hni := natI_length (i := i10) (by omega)
    refine text1_wp g3' F6.last (fun e => by rw [e, F5.at L.length (up_app _ (mid _ _ _).1)] at a27; cases a27) (by rw [List.length_append]; have := sm.2; simp only at this; omega) (Fin.of ?_)
    have F7 := F6.put (o' := stylO (((filesOf l).take q).flatMap fileB ++ natI i10 ++ (natB s12.size ++ bl s12))) L.length (up_app _ (up_app _ (mid _ _ _).1))
    rw [List.set_append_left _ _ (by simp <;> omega), List.set_append_left _ _ (by simp <;> omega), mset] at F7
    have e7 : ((filesOf l).take (q + 1)).flatMap fileB = ((filesOf l).take q).flatMap fileB ++ natI i10 ++ (natB s12.size ++ bl s12) := by
      obtain ⟨hq, hx⟩ := List.getElem?_eq_some_iff.1 hg
      rw [List.take_succ_eq_append_getElem hq, List.flatMap_append, List.flatMap_cons, List.flatMap_nil, List.append_nil, hx, List.append_assoc]
      rfl
    show Keep B h0 (L ++ [some (k3, stylO (((filesOf l).take (q + 1)).flatMap fileB))] ++ [some (k5, .vec TY.p_stylus_Stylus (plains [.pointer (some ⟨k3, 0, none⟩)]) 1)] ++ [some (kc, .vec TY.p_tome_Tome [.plain (.pointer (some ⟨kT, 0, none⟩))] 1)]) _
    rw [e7]
    exact F7.pop.pop
  · intro h14 E
    rw [List.take_length] at E
    refine ⟨_, E.cell (L.length + 1) (mid _ _ _).2.1 (j := 0) rfl, bytes_wp (E.at L.length (mid _ _ _).1) (Fin.of (hQ _ E.pop.pop.pop))⟩
end
end Go.Proofs.YtlehephbflgblaaGreat.H
namespace Go.Proofs.YtlehephbflgblaaGreat.H
open Go Go.RowKit
set_option linter.unusedVariables false
set_option maxRecDepth 100000
structure FSetR where
  i : Int
  b : Bool
  s : ByteArray
  v : Int
def FSetR.cells (x : FSetR) : List Value := [.int .i64 x.i, .bool x.b, .string x.s, .int .i64 x.v]
abbrev FL := List (FileS × Int)
def zF : FL := List.replicate 6 ((false, ByteArray.empty), 0)
def apF (l : FL) (x : FSetR) : FL := setF l x.i x.b x.s x.v
theorem TomeOk.foldl {l : FL} (k : TomeOk l) (sets : List FSetR) : TomeOk (sets.foldl apF l) := by
  induction sets generalizing l with
  | nil => exact k
  | cons x t ih => exact ih (k.set x.i x.b x.s x.v)
section
variable {B : RO} {h0 h h' : Heap} {a : Option Addr} {c : Nat} {list : List FSetR} {Q : Bool → Heap → Prop} {kA kA' kB kB' : Nat} {va vb : Value} {ra rb : Option (Nat × AObj)}
end
end Go.Proofs.YtlehephbflgblaaGreat.H
namespace Go.Proofs.YtlehephbflgblaaGreat.H
open Go Go.RowKit
set_option linter.unusedVariables false
set_option maxRecDepth 100000
def fileC (x : FileS × Int) : List Value := [.bool x.1.1, .string x.1.2]
theorem fileC_len (x : FileS × Int) : (fileC x).length = 2 := rfl
def filesC (l : FL) : List Value := l.flatMap fileC
theorem filesC_len (l : FL) : (filesC l).length = l.length * 2 := flatMap_length fileC_len l
theorem filesC_get (l : FL) (q : Nat) (x : FileS × Int) (h : l[q]? = some x) : (filesC l)[q * 2]? = some (.bool x.1.1) ∧ (filesC l)[q * 2 + 1]? = some (.string x.1.2) := by
  refine ⟨?_, ?_⟩
  · have := flatMap_at (cells := fileC) fileC_len l q x 0 _ h rfl
    exact this
  · exact flatMap_at (cells := fileC) fileC_len l q x 1 _ h rfl
theorem extract_files (l : FL) (q : Nat) (x : FileS × Int) (h : l[q]? = some x) : Array.extract (filesC l).toArray (q * 2) (q * 2 + 2) = #[.bool x.1.1, .string x.1.2] := by
  obtain ⟨hq, rfl⟩ := List.getElem?_eq_some_iff.1 h
  apply Array.toList_inj.1
  rw [Array.toList_extract]
  simp only [List.extract_eq_take_drop, filesC]
  rw [flatMap_splitR l q hq, List.drop_left' (by rw [flatMap_length fileC_len, List.length_take]; omega)]
  rw [show q * 2 + 2 - q * 2 = 2 by omega]
  rfl
theorem filesC_set (l : FL) (q : Nat) (hq : q < l.length) (x : FileS × Int) : filesC (l.set q x) = filesC (l.take q) ++ [.bool x.1.1, .string x.1.2] ++ filesC (l.drop (q + 1)) := flatMap_setR x l q hq
theorem filesC_one (l : FL) : ∀ y ∈ filesC l, isOne y = true := fun y hy => by
  obtain ⟨x, _, hx⟩ := List.mem_flatMap.1 hy
  simp [fileC] at hx
  rcases hx with rfl | rfl <;> rfl
section
variable {B : RO} {h0 h h' : Heap} {L : List (Option (Nat × AObj))} {r : Option (Nat × AObj)} {i kT kR k3 : Nat} {a : Option Addr} {v : Value} {l : FL}
theorem Keep.cellsP (E : Keep B h0 L h) (i : Nat) {k n : Nat} {t : TypeId} {ys zs : List Value} (hi : L[i]? = some (some (k, .vec t (plains (ys ++ zs)) n))) : CellsAt B h ⟨k, 0, none⟩ 0 ys :=
  CellsAt.of_vec ys 0 (E.at i hi) fun j y hj => by
    rw [plains_get, Nat.zero_add, List.getElem?_append_left (List.getElem?_eq_some_iff.1 hj).1, hj]; rfl
end
end Go.Proofs.YtlehephbflgblaaGreat.H
namespace Go.Proofs.YtlehephbflgblaaGreat.H
open Go Go.RowKit
set_option linter.unusedVariables false
set_option maxRecDepth 100000
abbrev ChR := Int × (Bool × ByteArray)
def chB (x : ChR) : List UInt8 := natI x.1 ++ (if x.2.1 = true then (1 : UInt8) :: (natB x.2.2.size ++ bl x.2.2) else [0])
def loadB (n : Int) (l : DFL) : List UInt8 := natI n ++ l.flatMap chB
noncomputable def stepC (l : List UInt8) : Option (ChR × List UInt8) :=
  match natT 5 l with
  | none => none
  | some (i, r) => match natT 1 r with
    | none => none
    | some (k, r2) => if k = 1 then (match natT 32 r2 with
        | none => none
        | some (n, r3) => if r3.length < n then none else some (((i : Int), true, ba (r3.take n)), r3.drop n))
      else some (((i : Int), false, ByteArray.empty), r2)
theorem stepC_0 {l : List UInt8} (h : natT 5 l = none) : stepC l = none := by rw [stepC, h]
theorem stepC_1 {l r : List UInt8} {i : Nat} (h : natT 5 l = some (i, r)) (h1 : natT 1 r = none) : stepC l = none := by rw [stepC, h]; simp [h1]
theorem stepC_off {l r r2 : List UInt8} {i k : Nat} (h : natT 5 l = some (i, r)) (h1 : natT 1 r = some (k, r2)) (hk : k ≠ 1) : stepC l = some (((i : Int), false, ByteArray.empty), r2) := by rw [stepC, h]; simp [h1, hk]
theorem stepC_2 {l r r2 : List UInt8} {i : Nat} (h : natT 5 l = some (i, r)) (h1 : natT 1 r = some (1, r2)) (h2 : natT 32 r2 = none) : stepC l = none := by rw [stepC, h]; simp [h1, h2]
theorem stepC_3 {l r r2 r3 : List UInt8} {i n : Nat} (h : natT 5 l = some (i, r)) (h1 : natT 1 r = some (1, r2)) (h2 : natT 32 r2 = some (n, r3)) (hs : r3.length < n) : stepC l = none := by rw [stepC, h]; simp [h1, h2, hs]
theorem stepC_on {l r r2 r3 : List UInt8} {i n : Nat} (h : natT 5 l = some (i, r)) (h1 : natT 1 r = some (1, r2)) (h2 : natT 32 r2 = some (n, r3)) (hs : ¬ r3.length < n) : stepC l = some (((i : Int), true, ba (r3.take n)), r3.drop n) := by rw [stepC, h]; simp [h1, h2, hs]
def GoodC (x : ChR) : Prop := 0 ≤ x.1 ∧ x.1 ≤ 5 ∧ goodF x.2.1 x.2.2 = true
theorem stepC_some {l r : List UInt8} {x : ChR} (h : stepC l = some (x, r)) : GoodC x ∧ l = chB x ++ r := by
  cases h0 : natT 5 l with
  | none => rw [stepC_0 h0] at h; cases h
  | some p =>
    obtain ⟨i, r1⟩ := p
    obtain ⟨e0, hi⟩ := natT_eq h0
    cases h1 : natT 1 r1 with
    | none => rw [stepC_1 h0 h1] at h; cases h
    | some p =>
      obtain ⟨k, r2⟩ := p
      obtain ⟨e1, hk⟩ := natT_eq h1
      by_cases hk1 : k = 1
      · subst hk1
        cases h2 : natT 32 r2 with
        | none => rw [stepC_2 h0 h1 h2] at h; cases h
        | some p =>
          obtain ⟨n, r3⟩ := p
          obtain ⟨e2, hn⟩ := natT_eq h2
          by_cases hs : r3.length < n
          · rw [stepC_3 h0 h1 h2 hs] at h; cases h
          · rw [stepC_on h0 h1 h2 hs] at h
            cases h
            have hl : (r3.take n).length = n := by rw [List.length_take]; omega
            refine ⟨⟨by simp only; omega, by simp only; omega, ?_⟩, ?_⟩
            · unfold goodF; simp only [ba_size, hl]; simp; exact hn
            · unfold chB
              simp only [if_true, natI_nat, ba_size, hl, bl_ba]
              rw [e0, e1, e2, natB_1]
              simp [List.append_assoc]
      · rw [stepC_off h0 h1 hk1] at h
        cases h
        have : k = 0 := by omega
        subst this
        refine ⟨⟨by simp only; omega, by simp only; omega, rfl⟩, ?_⟩
        unfold chB
        simp only [natI_nat]
        rw [e0, e1, natB_0]
        simp
theorem chB_pos (x : ChR) : 0 < (chB x).length := by unfold chB; split <;> simp <;> omega
theorem stepC_lt {l r : List UInt8} {x : ChR} (h : stepC l = some (x, r)) : r.length < l.length := by
  have e := (stepC_some h).2
  have := chB_pos x
  rw [e, List.length_append]; omega
theorem stepC_ok {x : ChR} (g : GoodC x) (r : List UInt8) : stepC (chB x ++ r) = some (x, r) := by
  obtain ⟨i, b, s⟩ := x
  obtain ⟨g1, g2, g3⟩ := g
  simp only at g1 g2 g3
  obtain ⟨n, rfl⟩ := Int.eq_ofNat_of_zero_le g1
  have hn : n ≤ 5 := by omega
  cases b with
  | true =>
    have hs : s.size ≤ 32 := by unfold goodF at g3; simp at g3; exact g3
    have e0 : natT 5 (chB ((n : Int), true, s) ++ r) = some (n, 1 :: (natB s.size ++ bl s) ++ r) := by
      unfold chB; simp only [natI_nat, if_true, List.append_assoc]; exact natT_ok hn (by omega) _
    have e1 : natT 1 (1 :: (natB s.size ++ bl s) ++ r) = some (1, natB s.size ++ (bl s ++ r)) := by
      have := natT_ok (most := 1) (n := 1) (by omega) (by omega) (natB s.size ++ (bl s ++ r))
      rw [natB_1] at this
      simpa [List.append_assoc] using this
    have e2 : natT 32 (natB s.size ++ (bl s ++ r)) = some (s.size, bl s ++ r) := natT_ok hs (by omega) _
    have := bl_length s
    rw [stepC_on e0 e1 e2 (by rw [List.length_append]; omega), ← this, List.take_left, List.drop_left, ba_bl]
  | false =>
    have hs : s = ByteArray.empty := by
      unfold goodF at g3; simp at g3; exact g3.2
    subst hs
    have e0 : natT 5 (chB ((n : Int), false, ByteArray.empty) ++ r) = some (n, 0 :: r) := by
      unfold chB; simp only [natI_nat]; rw [List.append_assoc]; exact natT_ok hn (by omega) _
    have e1 : natT 1 (0 :: r) = some (0, r) := by
      have := natT_ok (most := 1) (n := 0) (by omega) (by omega) r
      rw [natB_0] at this
      exact this
    exact stepC_off e0 e1 (by omega)
noncomputable def readC (l : List UInt8) (last : Int) : Option DFL :=
  if l = [] then some [] else
  match h : stepC l with
  | none => none
  | some (x, r) => if x.1 ≤ last then none else (readC r x.1).map (x :: ·)
termination_by l.length
decreasing_by exact stepC_lt h
theorem readC_nil (last : Int) : readC [] last = some [] := by rw [readC, if_pos rfl]
theorem readC_none {l : List UInt8} {last : Int} (h0 : l ≠ []) (h : stepC l = none) : readC l last = none := by
  rw [readC, if_neg h0]
  split
  · rfl
  · rename_i h2; rw [h] at h2; cases h2
theorem readC_some {l r : List UInt8} {x : ChR} {last : Int} (h : stepC l = some (x, r)) : readC l last = if x.1 ≤ last then none else (readC r x.1).map (x :: ·) := by
  have h0 : l ≠ [] := fun e => by have := stepC_lt h; rw [e] at this; simp at this
  rw [readC, if_neg h0]
  split
  · rename_i h2; rw [h] at h2; cases h2
  · rename_i h2; rw [h] at h2; cases h2; rfl
theorem readC_props : ∀ (n : Nat) (l : List UInt8) (last : Int) (xs : DFL), l.length ≤ n → readC l last = some xs → l = xs.flatMap chB ∧ SortD xs ∧ (∀ x ∈ xs, GoodC x ∧ last < x.1)
  | 0, l, last, xs, hl, h => by
    have : l = [] := List.length_eq_zero_iff.1 (by omega)
    subst this
    rw [readC_nil] at h; cases h
    exact ⟨rfl, List.Pairwise.nil, fun x hx => by cases hx⟩
  | n + 1, l, last, xs, hl, h => by
    by_cases h0 : l = []
    · subst h0
      rw [readC_nil] at h; cases h
      exact ⟨rfl, List.Pairwise.nil, fun x hx => by cases hx⟩
    · cases hs : stepC l with
      | none => rw [readC_none h0 hs] at h; cases h
      | some p =>
        obtain ⟨x, r⟩ := p
        rw [readC_some hs] at h
        split at h
        · cases h
        · rename_i hlt
          cases hr : readC r x.1 with
          | none => rw [hr] at h; cases h
          | some ys =>
            rw [hr] at h
            cases h
            have := stepC_lt hs
            obtain ⟨e1, e2, e3⟩ := readC_props n r x.1 ys (by omega) hr
            obtain ⟨g, e⟩ := stepC_some hs
            refine ⟨by rw [List.flatMap_cons, ← e1]; exact e, List.pairwise_cons.2 ⟨fun y hy => (e3 y hy).2, e2⟩, fun y hy => ?_⟩
            rcases List.mem_cons.1 hy with rfl | hy
            · exact ⟨g, by omega⟩
            · exact ⟨(e3 y hy).1, by have := (e3 y hy).2; omega⟩
theorem readC_back : ∀ (xs : DFL) (last : Int), SortD xs → (∀ x ∈ xs, GoodC x ∧ last < x.1) → readC (xs.flatMap chB) last = some xs
  | [], last, _, _ => readC_nil last
  | x :: xs, last, s, g => by
    obtain ⟨s1, s2⟩ := List.pairwise_cons.1 s
    obtain ⟨gx, hx⟩ := g x (by simp)
    rw [List.flatMap_cons, readC_some (stepC_ok gx _), if_neg (by omega), readC_back xs x.1 s2 (fun y hy => ⟨(g y (by simp [hy])).1, s1 y hy⟩)]
    rfl
noncomputable def loadOf (l : List UInt8) : Option (Nat × DFL) :=
  match natT 1099511627776 l with
  | none => none
  | some (n, r) => (readC r (-1)).map fun xs => (n, xs)
theorem loadOf_none {l : List UInt8} (h : natT 1099511627776 l = none) : loadOf l = none := by rw [loadOf, h]
theorem loadOf_eq {l r : List UInt8} {n : Nat} (h : natT 1099511627776 l = some (n, r)) : loadOf l = (readC r (-1)).map fun xs => (n, xs) := by rw [loadOf, h]
theorem loadOf_some {l : List UInt8} {n : Nat} {xs : DFL} (h : loadOf l = some (n, xs)) : l = loadB n xs ∧ SortD xs ∧ (∀ x ∈ xs, GoodC x) ∧ n ≤ 1099511627776 := by
  cases h0 : natT 1099511627776 l with
  | none => rw [loadOf_none h0] at h; cases h
  | some p =>
    obtain ⟨m, r⟩ := p
    rw [loadOf_eq h0] at h
    cases hr : readC r (-1) with
    | none => rw [hr] at h; cases h
    | some ys =>
      rw [hr] at h
      cases h
      obtain ⟨e1, e2, e3⟩ := readC_props _ r (-1) xs (Nat.le_refl _) hr
      obtain ⟨e0, hm⟩ := natT_eq h0
      exact ⟨by rw [loadB, natI_nat, ← e1]; exact e0, e2, fun x hx => (e3 x hx).1, hm⟩
theorem loadOf_back {n : Nat} {xs : DFL} (hn : n ≤ 1099511627776) (s : SortD xs) (g : ∀ x ∈ xs, GoodC x) : loadOf (loadB n xs) = some (n, xs) := by
  have e0 : natT 1099511627776 (loadB n xs) = some (n, xs.flatMap chB) := by rw [loadB, natI_nat]; exact natT_ok hn (by omega) _
  rw [loadOf_eq e0, readC_back xs (-1) s (fun x hx => ⟨g x hx, by have := (g x hx).1; omega⟩)]
  rfl
theorem sortGood_aux : ∀ (d : DFL) (lo : Int), SortD d → (∀ x ∈ d, lo ≤ x.1 ∧ x.1 ≤ 5) → lo ≤ 6 → (d.length : Int) ≤ 6 - lo
  | [], lo, _, _, h => by simp; omega
  | x :: d, lo, s, g, h => by
    obtain ⟨s1, s2⟩ := List.pairwise_cons.1 s
    have g0 := g x (by simp)
    have := sortGood_aux d (x.1 + 1) s2 (fun y hy => ⟨by have := s1 y hy; omega, (g y (by simp [hy])).2⟩) (by omega)
    rw [List.length_cons]; omega
theorem sortGood_len (d : DFL) (s : SortD d) (g : ∀ x ∈ d, GoodC x) : d.length ≤ 6 := by
  have := sortGood_aux d 0 s (fun x hx => ⟨(g x hx).1, (g x hx).2.1⟩) (by omega)
  omega
def apC (ver : Int) (l : FL) (x : ChR) : FL := l.set x.1.toNat (x.2, ver)
def apCs (ver : Int) (l : FL) (xs : DFL) : FL := xs.foldl (apC ver) l
theorem apCs_cons (ver : Int) (l : FL) (x : ChR) (xs : DFL) : apCs ver l (x :: xs) = apCs ver (apC ver l x) xs := rfl
theorem apCs_len (ver : Int) : ∀ (xs : DFL) (l : FL), (apCs ver l xs).length = l.length
  | [], l => rfl
  | x :: xs, l => by rw [apCs_cons, apCs_len ver xs]; simp [apC]
theorem apCs_snoc (ver : Int) (l : FL) (xs : DFL) (x : ChR) : apCs ver l (xs ++ [x]) = apC ver (apCs ver l xs) x := by unfold apCs; rw [List.foldl_append]; rfl
theorem apCs_app (ver : Int) (l : FL) (xs ys : DFL) : apCs ver l (xs ++ ys) = apCs ver (apCs ver l xs) ys := by unfold apCs; rw [List.foldl_append]
theorem apCs_take (ver : Int) (l : FL) {xs : DFL} {j : Nat} {x : ChR} (h : xs[j]? = some x) : apCs ver l (xs.take (j + 1)) = apC ver (apCs ver l (xs.take j)) x := by
  obtain ⟨hq, rfl⟩ := List.getElem?_eq_some_iff.1 h
  rw [List.take_succ_eq_append_getElem hq, apCs_snoc]
theorem setF_good {l : FL} {x : ChR} (g : GoodC x) (h6 : l.length = 6) (ver : Int) : setF l x.1 x.2.1 x.2.2 ver = apC ver l x := by
  obtain ⟨g1, g2, g3⟩ := g
  unfold setF setB
  rw [g3, decide_eq_true (show 0 ≤ x.1 ∧ x.1 < (l.length : Int) by omega)]
  rfl
noncomputable def goods : List ByteArray → List (Nat × DFL)
  | [] => []
  | b :: t => match loadOf (bl b) with
    | none => []
    | some p => p :: goods t
theorem goods_none {b : ByteArray} {t : List ByteArray} (h : loadOf (bl b) = none) : goods (b :: t) = [] := by rw [goods, h]
theorem goods_some {b : ByteArray} {t : List ByteArray} {p : Nat × DFL} (h : loadOf (bl b) = some p) : goods (b :: t) = p :: goods t := by rw [goods, h]
theorem goods_len : ∀ (l : List ByteArray), (goods l).length ≤ l.length
  | [] => Nat.le_refl _
  | b :: t => by
    cases h : loadOf (bl b) with
    | none => rw [goods_none h]; simp
    | some p => rw [goods_some h]; simp; exact goods_len t
theorem goods_get : ∀ {l : List ByteArray} {j : Nat} {b : ByteArray}, l[j]? = some b → j < (goods l).length → loadOf (bl b) = (goods l)[j]?
  | [], j, b, h, _ => by simp at h
  | c :: t, j, b, h, hj => by
    cases hc : loadOf (bl c) with
    | none => rw [goods_none hc] at hj; simp at hj
    | some p =>
      rw [goods_some hc] at hj ⊢
      cases j with
      | zero => simp at h; subst h; simpa using hc
      | succ j =>
        simp only [List.getElem?_cons_succ] at h ⊢
        exact goods_get h (by simpa using hj)
theorem goods_end : ∀ {l : List ByteArray} {b : ByteArray}, l[(goods l).length]? = some b → loadOf (bl b) = none
  | [], b, h => by simp at h
  | c :: t, b, h => by
    cases hc : loadOf (bl c) with
    | none => rw [goods_none hc] at h; simp at h; subst h; exact hc
    | some p =>
      rw [goods_some hc] at h
      simp only [List.length_cons, List.getElem?_cons_succ] at h
      exact goods_end h
def chsOf (l : List (Nat × DFL)) : DFL := l.flatMap (·.2)
def lastOf (l : List (Nat × DFL)) : Int := l.foldl (fun m p => if ((p.1 : Nat) : Int) > m then ((p.1 : Nat) : Int) else m) 0
theorem chsOf_take {l : List (Nat × DFL)} {j : Nat} {p : Nat × DFL} (h : l[j]? = some p) : chsOf (l.take (j + 1)) = chsOf (l.take j) ++ p.2 := by
  obtain ⟨hq, rfl⟩ := List.getElem?_eq_some_iff.1 h
  rw [List.take_succ_eq_append_getElem hq, chsOf, List.flatMap_append]; simp [chsOf]
theorem lastOf_take {l : List (Nat × DFL)} {j : Nat} {p : Nat × DFL} (h : l[j]? = some p) : lastOf (l.take (j + 1)) = if ((p.1 : Nat) : Int) > lastOf (l.take j) then ((p.1 : Nat) : Int) else lastOf (l.take j) := by
  obtain ⟨hq, rfl⟩ := List.getElem?_eq_some_iff.1 h
  rw [List.take_succ_eq_append_getElem hq, lastOf, List.foldl_append]; rfl
end Go.Proofs.YtlehephbflgblaaGreat.H
namespace Go.Proofs.YtlehephbflgblaaGreat.H
open Go Go.RowKit
set_option linter.unusedVariables false
set_option maxRecDepth 100000
theorem TK.slc_rch : slcB PG TY.s_redo_Change = some (TY.redo_Change, 3, 32) := by kernel_rfl
theorem TK.zero_rch : zeroB PG TY.redo_Change = some [.int .i64 0, .bool false, .string ByteArray.empty] := by kernel_rfl
theorem TK.sl_rch : slT PG TY.s_redo_Change = true := by kernel_rfl
theorem chB_len {x : ChR} (g : GoodC x) : (chB x).length ≤ 60 := by
  obtain ⟨g1, g2, g3⟩ := g
  have h1 := natI_length (i := x.1) (by omega)
  have hs : x.2.2.size ≤ 32 := by unfold goodF at g3; simp at g3; exact g3.1
  have h2 := natB_length (n := x.2.2.size) (by omega)
  unfold chB
  split
  · simp only [List.length_append, List.length_cons, bl_length]; omega
  · simp; omega
theorem chs_len : ∀ (xs : DFL), (∀ x ∈ xs, GoodC x) → (xs.flatMap chB).length ≤ 60 * xs.length
  | [], _ => by simp
  | x :: xs, g => by
    have h1 := chB_len (g x (by simp))
    have h2 := chs_len xs (fun y hy => g y (by simp [hy]))
    rw [List.flatMap_cons, List.length_append, List.length_cons]; omega
theorem chs_take {xs : DFL} {q : Nat} {x : ChR} (h : xs[q]? = some x) : (xs.take (q + 1)).flatMap chB = (xs.take q).flatMap chB ++ chB x := by
  obtain ⟨hq, rfl⟩ := List.getElem?_eq_some_iff.1 h
  rw [List.take_succ_eq_append_getElem hq, List.flatMap_append]; simp
section
variable {B : RO} {h0 h h' : Heap} {L : List (Option (Nat × AObj))} {r : Option (Nat × AObj)} {i k kT kR : Nat} {a : Option Addr} {m c : Nat} {v : Value} {xs : DFL} {l : FL} {s : ByteArray}
theorem nat2_wp {b k c : Nat} {bs : List UInt8} {x y : Int} {Q : Heap → Prop} (hb : h b = some (stylO bs)) (hk : h k = some (.vec TY.int (plains [.int .i64 x, .int .i64 y]) 2)) (hne : k ≠ b) (hx : x ≤ 9223372036854775807) (hy : y ≤ 9223372036854775807) (hbd : bs.length + 60 ≤ 1099511627776)
    (hQ : Q (h.set b (stylO (bs ++ (natI x ++ natI y))))) : C_stylus_Stylus_Nat B (some ⟨b, 0, none⟩) (some ⟨k, 0, none⟩) 2 c h Q := by
  refine nat_wp (ns := [x, y]) hb ?_ (by intro n hn; simp at hn; omega) hbd (by simpa [natsB] using hQ)
  intro i n hi
  match i with
  | 0 => cases hi; exact ⟨_, rfl, hne, cellH_vec hk rfl⟩
  | 1 => cases hi; exact ⟨_, rfl, hne, cellH_vec hk rfl⟩
  | i + 2 => cases hi
theorem redo_bytes_wp {n : Int} {Q : ByteArray → Heap → Prop} (E : Keep B h0 L h) (A : DAt_file_File L i k v r) (R : DRow_file_File r v xs) (g : ∀ x ∈ xs, GoodC x) (hl : xs.length ≤ 1000) (hn : n ≤ 9223372036854775807)
    (hQ : ∀ h', Keep B h0 L h' → Q (ba (loadB n xs)) h') : C_redo_Bytes B n (some ⟨k, 0, none⟩) h Q := by
  refine C_redo_Bytes.of ?_
  unfold S_redo_Bytes
  intro k4 a4 b4 h5 e5 k6 a6 b6 h7 e7
  have E1 := (E.start.nM a4 b4 e5).nM a6 b6 e7
  refine ⟨_, storeH_vec (E1.gM 1 rfl) rfl, ?_⟩
  have E2 := E1.pM (o' := .vec TY.p_stylus_Stylus (plains [.pointer (some ⟨k4, 0, none⟩)]) 1) 1 rfl
  refine ⟨_, E2.cM 1 rfl (i := 0) rfl, ?_⟩
  intro k10 a10 b10 h11 e11
  have E3 := E2.nM a10 b10 e11
  refine Spec.ent (styl_new (E3.gM 0 rfl)) ?_
  have E4 := E3.pM (o' := stylO []) 0 rfl
  refine nat1_wp (E4.gM 0 rfl) (E4.gM 2 rfl) (fun e => absurd e (E4.ne (L.length + 2) (L.length + 0) (upM 2 rfl) (upM 0 rfl) (by omega))) hn (by simp) ?_
  have E5 := (E4.pM (o' := stylO ([] ++ natI n)) 0 rfl).tM 2
  refine fdall_wp fun kc ac bc => ?_
  have E6 := E5.nM (o := .vec TY.p_draft_Draft_file_File [.plain (.pointer (some ⟨k, 0, none⟩))] 1) ac bc rfl
  refine ⟨xs, fdG kc k v r, fun q h' => Keep B h0 (L ++ [some (k4, stylO (natI n ++ (xs.take q).flatMap chB)), some (k6, .vec TY.p_stylus_Stylus (plains [.pointer (some ⟨k4, 0, none⟩)]) 1), some (kc, .vec TY.p_draft_Draft_file_File [.plain (.pointer (some ⟨k, 0, none⟩))] 1)]) h', fdall_iter (k := k) R (by omega), fdG_ins, ?_, Fin.of ?_, ?_, ?_⟩
  · intro q h' E
    exact ⟨E.gM 2 rfl, E.at i (up_app _ A.p), fun k o e => E.at (i + 1) (by rw [up_app _ A.q, e])⟩
  · simpa using E6
  · clear E1 E2 E3 E4 E5 E6
    rintro q h19 i15 b16 s17 hg E
    have gx := g _ (List.mem_of_getElem? hg)
    obtain ⟨g1, g2, g3⟩ := gx
    simp only at g1 g2 g3
    have hs : s17.size ≤ 32 := by unfold goodF at g3; simp at g3; exact g3.1
    have hlen := chs_len (xs.take q) (fun x hx => g x (List.mem_of_mem_take hx))
    have hn0 := natI_length hn
    have hni := natI_length (i := i15) (by omega)
    rw [List.length_take] at hlen
    have n1 : natI 1 = [1] := by rw [show (1 : Int) = ((1 : Nat) : Int) from rfl, natI_nat, natB_1]
    have n0 : natI 0 = [0] := by rw [show (0 : Int) = ((0 : Nat) : Int) from rfl, natI_nat, natB_0]
    intro k23 a23 b23 h24 e24
    have E1 := E.nM a23 b23 e24
    refine ⟨_, stores_whole (E1.gM 3 rfl) rfl (by simp) (by simp [isOne]) (by simp), ?_⟩
    have E2 := E1.pM (o' := .vec TY.file_File (plains [.bool b16, .string s17]) 2) 3 rfl
    refine ⟨b16, E2.cM 3 rfl (i := 0) rfl, fun hb => ?_, fun hb => ?_⟩
    · subst hb
      refine ⟨_, E2.cM 1 rfl (i := 0) rfl, fun k32 a32 b32 h33 e33 => ?_⟩
      have E3 := E2.nM a32 b32 e33
      refine nat2_wp (E3.gM 0 rfl) (E3.gM 4 rfl) (fun e => absurd e (E3.ne (L.length + 4) (L.length + 0) (upM 4 rfl) (upM 0 rfl) (by omega))) (by omega) (by omega) (by rw [List.length_append]; omega) ?_
      have E4 := (E3.pM (o' := stylO (natI n ++ (xs.take q).flatMap chB ++ (natI i15 ++ natI 1))) 0 rfl).tM 4
      refine ⟨_, E4.cM 1 rfl (i := 0) rfl, _, E4.cM 3 rfl (i := 1) rfl, fun k37 a37 b37 h38 e38 => ?_⟩
      have E5 := E4.nM a37 b37 e38
      refine text1_wp (E5.gM 0 rfl) (E5.gM 4 rfl) (fun e => absurd e (E5.ne (L.length + 4) (L.length + 0) (upM 4 rfl) (upM 0 rfl) (by omega))) (by simp only [List.length_append, n1, List.length_cons, List.length_nil]; omega) (Fin.of ?_)
      have E6 := (E5.pM (o' := stylO (natI n ++ (xs.take q).flatMap chB ++ (natI i15 ++ natI 1) ++ (natB s17.size ++ bl s17))) 0 rfl).tM 3
      have e7 : natI n ++ (xs.take (q + 1)).flatMap chB = natI n ++ (xs.take q).flatMap chB ++ (natI i15 ++ natI 1) ++ (natB s17.size ++ bl s17) := by
        rw [chs_take hg, chB, n1]; simp [List.append_assoc]
      show Keep B h0 (L ++ [some (k4, stylO (natI n ++ (xs.take (q + 1)).flatMap chB)), some (k6, .vec TY.p_stylus_Stylus (plains [.pointer (some ⟨k4, 0, none⟩)]) 1), some (kc, .vec TY.p_draft_Draft_file_File [.plain (.pointer (some ⟨k, 0, none⟩))] 1)]) _
      rw [e7]; exact E6
    · subst hb
      refine ⟨_, E2.cM 1 rfl (i := 0) rfl, fun k32 a32 b32 h33 e33 => ?_⟩
      have E3 := E2.nM a32 b32 e33
      refine nat2_wp (E3.gM 0 rfl) (E3.gM 4 rfl) (fun e => absurd e (E3.ne (L.length + 4) (L.length + 0) (upM 4 rfl) (upM 0 rfl) (by omega))) (by omega) (by omega) (by rw [List.length_append]; omega) (Fin.of ?_)
      have E4 := (E3.pM (o' := stylO (natI n ++ (xs.take q).flatMap chB ++ (natI i15 ++ natI 0))) 0 rfl).tM 3
      have e7 : natI n ++ (xs.take (q + 1)).flatMap chB = natI n ++ (xs.take q).flatMap chB ++ (natI i15 ++ natI 0) := by
        rw [chs_take hg, chB, n0]; simp [List.append_assoc]
      show Keep B h0 (L ++ [some (k4, stylO (natI n ++ (xs.take (q + 1)).flatMap chB)), some (k6, .vec TY.p_stylus_Stylus (plains [.pointer (some ⟨k4, 0, none⟩)]) 1), some (kc, .vec TY.p_draft_Draft_file_File [.plain (.pointer (some ⟨k, 0, none⟩))] 1)]) _
      rw [e7]; exact E4
  · intro h19 E
    rw [List.take_length] at E
    exact ⟨_, E.cM 1 rfl (i := 0) rfl, bytes_wp (E.gM 0 rfl) (Fin.of (hQ _ E.zM))⟩
theorem redo_read_wp {Q : Int → Option Addr → Nat → Nat → Bool → Heap → Prop} (E : Keep B h0 L h) (hN : loadOf (bl s) = none → ∀ h', Keep B h0 L h' → Q 0 none 0 0 false h')
    (hS : ∀ n xs, loadOf (bl s) = some (n, xs) → ∀ a c r h', Row r (.slice a xs.length c) TY.redo_Change 3 (xs.flatMap entC_file_File) → Keep B h0 (L ++ [r]) h' → Q n a xs.length c true h') : C_redo_Read B s h Q := by
  refine C_redo_Read.of ?_
  unfold S_redo_Read
  refine rof_wp (ba_bl s).symm fun k7 a7 b7 => ?_
  have E1 := E.start.nM (o := rdO (bl s) false) a7 b7 rfl
  refine rnat_wp (by decide) (E1.gM 0 rfl) ?_
  have E2 := E1.pM (o' := rdO (rNat 1099511627776 (bl s) false).2.1 (rNat 1099511627776 (bl s) false).2.2) 0 rfl
  have hst : ∃ (n0 : Nat) (l : List UInt8) (bad : Bool), rNat 1099511627776 (bl s) false = (n0, l, bad) ∧ (bad = true → l = [] ∧ loadOf (bl s) = none) ∧ (bad = false → loadOf (bl s) = (readC l (-1)).map fun ys => (n0, [] ++ ys)) := by
    cases h0' : natT 1099511627776 (bl s) with
    | none => exact ⟨0, [], true, rNat_none h0', fun _ => ⟨rfl, loadOf_none h0'⟩, fun e => by cases e⟩
    | some p => obtain ⟨n0, l⟩ := p; exact ⟨n0, l, false, rNat_some h0', fun e => (by cases e), fun _ => loadOf_eq h0'⟩
  obtain ⟨n0, l0, bad0, e0, i1, i2⟩ := hst
  rw [e0] at E2 ⊢
  refine ⟨fun a n c last m h' => ∃ (l : List UInt8) (bad : Bool) (acc : DFL) (r : Option (Nat × AObj)), n = acc.length ∧ m = l.length ∧ -1 ≤ last ∧ last ≤ 5 ∧ (acc.length : Int) ≤ last + 1 ∧ Row r (.slice a acc.length c) TY.redo_Change 3 (acc.flatMap entC_file_File) ∧ (bad = true → l = [] ∧ loadOf (bl s) = none) ∧ (bad = false → loadOf (bl s) = (readC l last).map fun ys => (n0, acc ++ ys)) ∧ Keep B h0 (L ++ [some (k7, rdO l bad), r]) h', l0.length, Fin.of ⟨l0, bad0, [], none, rfl, rfl, by omega, by omega, by simp, Row.nil _ _, i1, i2, ?_⟩, ?_⟩
  · have := E2.gap
    rw [List.append_assoc] at this; exact this
  clear E1 E2 i1 i2 e0
  rintro a _ c last _ h22 ⟨l, bad, acc, r, rfl, rfl, q1, q2, q3, R, i1, i2, E⟩
  refine rleft_wp (E.gM 0 rfl) ⟨fun hpos => ?_, fun hz => Fin.of ?_⟩
  · have hne : l ≠ [] := fun e => by rw [e] at hpos; simp at hpos
    have hbf : bad = false := by
      cases bad with
      | false => rfl
      | true => exact absurd (i1 rfl).1 hne
    subst hbf
    have i3 := i2 rfl
    refine rnat_wp (by decide) (E.gM 0 rfl) ?_
    have E1 := E.pM (o' := rdO (rNat 5 l false).2.1 (rNat 5 l false).2.2) 0 rfl
    intro k32 a32 b32 h33 e33
    have E2 := E1.nM a32 b32 e33
    refine ⟨_, stores_whole (E2.gM 2 rfl) rfl (by simp) (by simp [isOne]) (by simp), ?_⟩
    have E3 := E2.pM (o' := .vec TY.redo_Change (plains [.int .i64 ((rNat 5 l false).1 : Nat), .bool false, .string ByteArray.empty]) 3) 2 rfl
    refine rnat_wp (by decide) (E3.gM 0 rfl) ?_
    have E4 := E3.pM (o' := rdO (rNat 1 (rNat 5 l false).2.1 (rNat 5 l false).2.2).2.1 (rNat 1 (rNat 5 l false).2.1 (rNat 5 l false).2.2).2.2) 0 rfl
    have nope : ∀ {h1 : Heap} {y : Option (Nat × AObj)}, readC l last = none → Keep B h0 (L ++ [some (k7, rdO [] true), r, y]) h1 → S_redo_Read_J2 B (some ⟨k7, 0, none⟩) (n0 : Nat) a acc.length c last l.length (fun a n c last m h' => ∃ (l : List UInt8) (bad : Bool) (acc : DFL) (r : Option (Nat × AObj)), n = acc.length ∧ m = l.length ∧ -1 ≤ last ∧ last ≤ 5 ∧ (acc.length : Int) ≤ last + 1 ∧ Row r (.slice a acc.length c) TY.redo_Change 3 (acc.flatMap entC_file_File) ∧ (bad = true → l = [] ∧ loadOf (bl s) = none) ∧ (bad = false → loadOf (bl s) = (readC l last).map fun ys => (n0, acc ++ ys)) ∧ Keep B h0 (L ++ [some (k7, rdO l bad), r]) h') k32 h1 Q := fun {h1 y} e1 E1 => by
      unfold S_redo_Read_J2
      refine rbad_wp (E1.gM 0 rfl) ⟨fun _ => Fin.of (hN ?_ _ E1.zM), fun e => by cases e⟩
      rw [i3, e1]; rfl
    have go : ∀ {h1 : Heap} {x : ChR} {rr : List UInt8}, stepC l = some (x, rr) → Keep B h0 (L ++ [some (k7, rdO rr false), r, some (k32, .vec TY.redo_Change (plains (entC_file_File x)) 3)]) h1 → S_redo_Read_J2 B (some ⟨k7, 0, none⟩) (n0 : Nat) a acc.length c last l.length (fun a n c last m h' => ∃ (l : List UInt8) (bad : Bool) (acc : DFL) (r : Option (Nat × AObj)), n = acc.length ∧ m = l.length ∧ -1 ≤ last ∧ last ≤ 5 ∧ (acc.length : Int) ≤ last + 1 ∧ Row r (.slice a acc.length c) TY.redo_Change 3 (acc.flatMap entC_file_File) ∧ (bad = true → l = [] ∧ loadOf (bl s) = none) ∧ (bad = false → loadOf (bl s) = (readC l last).map fun ys => (n0, acc ++ ys)) ∧ Keep B h0 (L ++ [some (k7, rdO l bad), r]) h') k32 h1 Q := fun {h1 x rr} e1 E1 => by
      obtain ⟨⟨g1, g2, g3⟩, -⟩ := stepC_some e1
      have hlt := stepC_lt e1
      have hrd := readC_some (last := last) e1
      unfold S_redo_Read_J2
      refine rbad_wp (E1.gM 0 rfl) ⟨fun e => (by cases e), fun _ => ⟨x.1, E1.cM 2 rfl (i := 0) rfl, fun hle => Fin.of (hN ?_ _ E1.zM), fun hgt => Fin.of ?_⟩⟩
      · rw [i3, hrd, if_pos hle]; rfl
      · rw [if_neg hgt] at hrd
        unfold S_redo_Read_J3
        refine ⟨x.1, E1.cM 2 rfl (i := 0) rfl, x.1, x.2.1, x.2.2, ⟨E1.cM 2 rfl (i := 0) rfl, E1.cM 2 rfl (i := 1) rfl, E1.cM 2 rfl (i := 2) rfl, trivial⟩, fun k43 a43 b43 h44 e44 => ?_⟩
        refine E1.push1 (L.length + 1) (upM 1 rfl) R TK.slc_rch TK.zero_rch rfl (by omega) (by omega) TK.sl_rch (ys := entC_file_File x) rfl (entC_file_File_one x) (by rw [flatMap_length entC_file_File_len, entC_file_File_len]; omega) a43 b43 e44 fun a' m' c' r' h' R' E2 => ⟨a', m', c', rfl, Fin.of ⟨rr.length, hlt, rr, false, acc ++ [x], r', ?_, rfl, by omega, g2, by rw [List.length_append]; simp; omega, ?_, fun e => (by cases e), fun _ => ?_, ?_⟩⟩
        · have := Row.len R'
          rw [List.length_append, flatMap_length entC_file_File_len, entC_file_File_len] at this
          rw [List.length_append, List.length_singleton]; omega
        · have := Row.len R'
          rw [List.length_append, flatMap_length entC_file_File_len, entC_file_File_len] at this
          rw [show m' = (acc ++ [x]).length by rw [List.length_append, List.length_singleton]; omega] at R'
          rw [List.flatMap_append, List.flatMap_singleton]; exact R'
        · rw [i3, hrd, Option.map_map]
          congr 1
          funext ys
          simp [List.append_assoc]
        · rw [setM] at E2
          exact E2.tM 2
    cases t0 : natT 5 l with
    | none =>
      have f0 : rNat 5 l false = (0, [], true) := rNat_none t0
      have f1 : rNat 1 (rNat 5 l false).2.1 (rNat 5 l false).2.2 = (0, [], true) := by rw [f0]; exact rNat_bad 1
      rw [f1] at E4 ⊢
      exact ⟨fun e => by simp at e, fun _ => Fin.of (nope (readC_none hne (stepC_0 t0)) E4)⟩
    | some p =>
      obtain ⟨ix, r1⟩ := p
      have f0 : rNat 5 l false = (ix, r1, false) := rNat_some t0
      rw [f0] at E4 ⊢
      cases t1 : natT 1 r1 with
      | none =>
        have f1 : rNat 1 r1 false = (0, [], true) := rNat_none t1
        simp only [f1] at E4 ⊢
        exact ⟨fun e => by simp at e, fun _ => Fin.of (nope (readC_none hne (stepC_1 t0 t1)) E4)⟩
      | some p =>
        obtain ⟨kx, r2⟩ := p
        have f1 : rNat 1 r1 false = (kx, r2, false) := rNat_some t1
        simp only [f1] at E4 ⊢
        refine ⟨fun hk => ?_, fun hk => Fin.of (go (stepC_off t0 t1 (by omega)) E4)⟩
        have hk1 : kx = 1 := by omega
        subst hk1
        refine rtext_wp (by decide) (E4.gM 0 rfl) ?_
        have E5 := E4.pM (o' := rdO (rText 32 r2 false).2.1 (rText 32 r2 false).2.2) 0 rfl
        obtain ⟨h58, st, E6⟩ := E5.vM 2 (fs := [.int .i64 (ix : Nat)]) (gs := [.bool false, .string ByteArray.empty]) rfl [.bool true, .string (ba (rText 32 r2 false).1)] (by simp [isOne]) 1 rfl (by simp)
        refine ⟨h58, st, ?_⟩
        cases t2 : natT 32 r2 with
        | none =>
          have f2 : rText 32 r2 false = ([], [], true) := rText_none t2
          rw [f2] at E6
          exact Fin.of (nope (readC_none hne (stepC_2 t0 t1 t2)) E6)
        | some p =>
          obtain ⟨n, r3⟩ := p
          by_cases hs : r3.length < n
          · have f2 : rText 32 r2 false = ([], [], true) := rText_short t2 hs
            rw [f2] at E6
            exact Fin.of (nope (readC_none hne (stepC_3 t0 t1 t2 hs)) E6)
          · have f2 : rText 32 r2 false = (r3.take n, r3.drop n, false) := rText_some t2 hs
            rw [f2] at E6
            exact Fin.of (go (stepC_on t0 t1 t2 hs) E6)
  · have hl : l = [] := List.length_eq_zero_iff.1 (by omega)
    subst hl
    unfold S_redo_Read_J1
    refine rbad_wp (E.gM 0 rfl) ⟨fun hb => Fin.of (hN (i1 hb).2 _ E.zM), fun hb => Fin.of ?_⟩
    have i3 := i2 hb
    rw [readC_nil] at i3
    refine hS n0 acc (by rw [i3]; simp) a c r _ R ?_
    exact E.sM [1] (by decide)
end
end Go.Proofs.YtlehephbflgblaaGreat.H
namespace Go.Proofs.YtlehephbflgblaaGreat.H
open Go Go.RowKit
set_option linter.unusedVariables false
set_option maxRecDepth 100000
theorem TK.slc_xch : slcB PG TY.s_countermandref18_Change = some (TY.countermandref18_Change, 3, 32) := by kernel_rfl
theorem TK.zero_xch : zeroB PG TY.countermandref18_Change = some [.int .i64 0, .bool false, .string ByteArray.empty] := by kernel_rfl
theorem TK.sl_xch : slT PG TY.s_countermandref18_Change = true := by kernel_rfl
section
variable {B : RO} {h0 h h' : Heap} {L : List (Option (Nat × AObj))} {r : Option (Nat × AObj)} {i k kT kR : Nat} {a : Option Addr} {m c : Nat} {v : Value} {xs : DFL} {l : FL} {s : ByteArray}
theorem TomeAt.set2 {r' : Option (Nat × AObj)} (A : TomeAt L i kT kR v r) : TomeAt (L.set (i + 2) r') i kT kR v r' :=
  ⟨by rw [List.getElem?_set_ne (by omega)]; exact A.p, by
    have hl := (List.getElem?_eq_some_iff.1 A.f.q).1
    exact ⟨by rw [List.getElem?_set_ne (by omega)]; exact A.f.p, by rw [show i + 1 + 1 = i + 2 by omega]; exact List.getElem?_set_self hl⟩⟩
theorem TomeAt.app {M : List (Option (Nat × AObj))} (A : TomeAt L i kT kR v r) : TomeAt (L ++ M) i kT kR v r := ⟨up_app _ A.p, ⟨up_app _ A.f.p, up_app _ A.f.q⟩⟩
theorem TomeAt.lt (A : TomeAt L i kT kR v r) : i + 2 < L.length := (List.getElem?_eq_some_iff.1 A.f.q).1
def RdAll (B : RO) (h0 : Heap) (L : List (Option (Nat × AObj))) (i : Nat) (a : Option Addr) (xs : DFL) : Prop := ∀ (r' : Option (Nat × AObj)) (h' : Heap), Keep B h0 (L.set (i + 2) r') h' → Reads B h' a 3 entC_file_File xs
theorem redo_apply_wp {ver : Int} {Q : Heap → Prop} (E : Keep B h0 L h) (A : TomeAt L i kT kR v r) (R : FRow r v l) (h6 : l.length = 6) (g : ∀ x ∈ xs, GoodC x) (hl : xs.length ≤ 1000000) (hr : RdAll B h0 L i a xs)
    (hQ : ∀ r' h', FRow r' v (apCs ver l xs) → Keep B h0 (L.set (i + 2) r') h' → Q h') : C_redo_Apply B (some ⟨kT, 0, none⟩) a xs.length c ver h Q := by
  refine C_redo_Apply.of ?_
  unfold S_redo_Apply
  have hA := A.lt
  refine ⟨fun ix m h' => ∃ (j : Nat) (r' : Option (Nat × AObj)), j ≤ xs.length ∧ ix = j ∧ m = xs.length - j ∧ FRow r' v (apCs ver l (xs.take j)) ∧ Keep B h0 (L.set (i + 2) r') h', xs.length, Fin.of ⟨0, r, by omega, rfl, by omega, R, ?_⟩, ?_⟩
  · rw [show L.set (i + 2) r = L from by obtain ⟨hl, e⟩ := List.getElem?_eq_some_iff.1 A.f.q; rw [show i + 2 = i + 1 + 1 by omega, ← e]; exact List.set_getElem_self hl]; exact E
  clear E R
  rintro _ _ h7 ⟨j, r1, hj, rfl, rfl, R, E⟩
  refine ⟨fun hlt => ?_, fun hge => Fin.of ?_⟩
  · have hj' : j < xs.length := by omega
    have hw : IntKind.wrap .i64 ((j : Int) + 1) = ((j + 1 : Nat) : Int) := by rw [w64 (by omega) (by omega)]; omega
    have hx := List.getElem?_eq_getElem hj'
    have gx := g _ (List.getElem_mem hj')
    generalize xs[j] = x at hx gx
    obtain ⟨A', e1, e3, e4⟩ := (hr r1 _ E) j x hx
    refine ⟨A', e1, by omega, hlt, x.1, x.2.1, x.2.2, e4, fun k18 a18 b18 h19 e19 => ?_⟩
    have E1 := E.made a18 b18 e19
    refine ⟨_, stores_whole E1.last rfl (by simp) (by simp [isOne]) (by simp), ?_⟩
    have E2 := E1.putLast (.vec TY.redo_Change (plains (entC_file_File x)) 3)
    refine ⟨x.1, cellH_vec E2.last rfl, x.2.1, x.2.2, ⟨cellH_vec E2.last rfl, cellH_vec E2.last rfl, trivial⟩, ?_⟩
    refine tset_wp (i := i) E2 (A.set2.app) R fun r' h24 R' E3 => Fin.of ⟨xs.length - (j + 1), by omega, j + 1, r', by omega, hw, rfl, ?_, ?_⟩
    · rw [setF_good gx (by rw [apCs_len]; exact h6)] at R'
      rw [apCs_take ver l hx]; exact R'
    · rw [List.set_append_left _ _ (by rw [List.length_set]; exact hA), List.set_set] at E3
      exact E3.pop
  · have : j = xs.length := by omega
    subst this
    rw [List.take_length] at R
    exact hQ _ _ R E
theorem redo_replay_wp {bs : List ByteArray} {Q : Int → Int → Heap → Prop} (E : Keep B h0 L h) (A : TomeAt L i kT kR v r) (R : FRow r v l) (h6 : l.length = 6) (hl : bs.length ≤ 1000000)
    (hr : ∀ (r' : Option (Nat × AObj)) (h' : Heap), Keep B h0 (L.set (i + 2) r') h' → Reads B h' a 1 (fun s => [.string s]) bs)
    (hQ : ∀ r' h', FRow r' v (apCs 0 l (chsOf (goods bs))) → Keep B h0 (L.set (i + 2) r') h' → Q (lastOf (goods bs)) ((goods bs).length : Nat) h') : C_redo_Replay B (some ⟨kT, 0, none⟩) a bs.length c h Q := by
  refine C_redo_Replay.of ?_
  unfold S_redo_Replay
  have hA := A.lt
  have hg := goods_len bs
  refine ⟨fun la ix m h' => ∃ (j : Nat) (r' : Option (Nat × AObj)), j ≤ (goods bs).length ∧ ix = j ∧ m = bs.length - j ∧ la = lastOf ((goods bs).take j) ∧ FRow r' v (apCs 0 l (chsOf ((goods bs).take j))) ∧ Keep B h0 (L.set (i + 2) r') h', bs.length, Fin.of ⟨0, r, by omega, rfl, by omega, rfl, R, ?_⟩, ?_⟩
  · rw [show L.set (i + 2) r = L from by obtain ⟨hl, e⟩ := List.getElem?_eq_some_iff.1 A.f.q; rw [show i + 2 = i + 1 + 1 by omega, ← e]; exact List.set_getElem_self hl]; exact E
  clear E R
  rintro _ _ _ h9 ⟨j, r1, hj, rfl, rfl, rfl, R, E⟩
  refine ⟨fun hlt => ?_, fun hge => Fin.of ?_⟩
  · have hj' : j < bs.length := by omega
    have hw : IntKind.wrap .i64 ((j : Int) + 1) = ((j + 1 : Nat) : Int) := by rw [w64 (by omega) (by omega)]; omega
    have hx := List.getElem?_eq_getElem hj'
    generalize bs[j] = b at hx
    obtain ⟨A', e1, e3, e4⟩ := (hr r1 _ E) j b hx
    refine ⟨A', e1, by omega, hlt, b, e4.1, ?_⟩
    refine redo_read_wp E (fun hn h18 E1 => ⟨fun e => (by cases e), fun _ => Fin.of ?_⟩) fun n xs hs a20 c22 r20 h18 R20 E1 => ⟨fun _ => ?_, fun e => by cases e⟩
    · have : j = (goods bs).length := by
        rcases Nat.lt_or_ge j (goods bs).length with h | h
        · have := goods_get hx h
          rw [hn, List.getElem?_eq_getElem h] at this; cases this
        · omega
      subst this
      rw [List.take_length] at R ⊢
      exact hQ _ _ R E1
    · have hjl : j < (goods bs).length := by
        rcases Nat.lt_or_ge j (goods bs).length with h | h
        · exact h
        · have : j = (goods bs).length := by omega
          subst this
          rw [goods_end hx] at hs; cases hs
      have hgj := goods_get hx hjl
      rw [hs] at hgj
      obtain ⟨_, _, gx, _⟩ := loadOf_some hs
      obtain ⟨-, rd20⟩ := Row.rd (B := B) R20 entC_file_File_len (by omega)
      have hsz : xs.length ≤ 1000000 := by
        have : ∀ (d : DFL), SortD d → (∀ x ∈ d, GoodC x) → d.length ≤ 6 := sortGood_len
        have := this xs (loadOf_some hs).2.1 gx
        omega
      refine redo_apply_wp (i := i) E1 A.set2.app R (by rw [apCs_len]; exact h6) gx hsz (fun r' h' E' => rd20 h' fun k o e => E'.at L.length ?_) fun r' h24 R' E2 => Fin.of ⟨bs.length - (j + 1), by omega, j + 1, r', by omega, hw, rfl, ?_, ?_, ?_⟩
      · rw [List.getElem?_set_ne (by omega), List.getElem?_append_right (by simp), List.length_set, Nat.sub_self, e]; rfl
      · rw [lastOf_take hgj.symm]
      · rw [chsOf_take hgj.symm, apCs_app]; exact R'
      · rw [List.set_append_left _ _ (by rw [List.length_set]; exact hA), List.set_set] at E2
        exact E2.pop
  · have : bs.length = (goods bs).length := by omega
    have hjj : j = (goods bs).length := by omega
    subst hjj
    rw [List.take_length] at R ⊢
    have := hQ _ _ R E
    rwa [← ‹bs.length = (goods bs).length›] at this
end
end Go.Proofs.YtlehephbflgblaaGreat.H
namespace Go.Proofs.YtlehephbflgblaaGreat.H
open Go Go.RowKit
set_option linter.unusedVariables false
set_option maxRecDepth 100000
structure ShI where
  kT : Nat
  kR : Nat
  vt : Value
  rt : Option (Nat × AObj)
  ks : Nat
  kf : Nat
def getS (l : FL) (d : DFL) (n : Int) : FileS × Bool := match atD d n with
  | some f => (f, true)
  | none => ((fileAt l n).1, false)
theorem getS_some {l : FL} {d : DFL} {n : Int} {f : FileS} (h : atD d n = some f) : getS l d n = (f, true) := by rw [getS, h]
theorem getS_none {l : FL} {d : DFL} {n : Int} (h : atD d n = none) : getS l d n = ((fileAt l n).1, false) := by rw [getS, h]
def putS (l : FL) (d : DFL) (n : Int) (f : FileS) : DFL := if (getS l d n).1 = f then d else insD d n f
section
variable {B : RO} {h0 h h' : Heap} {L : List (Option (Nat × AObj))} {r rd : Option (Nat × AObj)} {i k : Nat} {a : Option Addr} {m c : Nat} {v vd : Value} {l : FL} {d : DFL} {n : Int} {x : ShI} {f : FileS}
end
end Go.Proofs.YtlehephbflgblaaGreat.H
namespace Go.Proofs.YtlehephbflgblaaGreat.H
open Go Go.RowKit
set_option linter.unusedVariables false
set_option maxRecDepth 100000
def padT (n : Nat) (l : List UInt8) : List UInt8 := l ++ List.replicate (n - l.length) 0
theorem padT_len (n : Nat) (l : List UInt8) : (padT n l).length = max l.length n := by simp [padT]; omega
def putT (l : List UInt8) (k : Nat) (c : UInt8) : List UInt8 := (padT (k + 1) l).set k c
def putF (f : FileS) (at' : Int) (c : UInt8) : FileS := if 0 ≤ at' ∧ at' < 32 then (true, ba (putT (bl f.2) at'.toNat c)) else f
def cutT (l : List UInt8) (n : Nat) : List UInt8 := (padT n l).take n
def cutF (f : FileS) (n : Int) : FileS := if f.1 = true ∧ 0 ≤ n ∧ n ≤ 32 then (true, ba (cutT (bl f.2) n.toNat)) else f
theorem cutT_len (l : List UInt8) (n : Nat) : (cutT l n).length = n := by unfold cutT; rw [List.length_take, padT_len]; omega
theorem putT_len (l : List UInt8) (k : Nat) (c : UInt8) : (putT l k c).length = max l.length (k + 1) := by unfold putT; rw [List.length_set, padT_len]
section
variable {B : RO} {h h0 : Heap} {L : List (Option (Nat × AObj))} {b : Bool} {s : ByteArray}
end
end Go.Proofs.YtlehephbflgblaaGreat.H
namespace Go.Proofs.YtlehephbflgblaaGreat.H
open Go Go.RowKit
set_option linter.unusedVariables false
set_option maxRecDepth 100000
def inR (n : Int) : Bool := decide (0 ≤ n ∧ n < 6)
theorem inR_t {n : Int} (h : inR n = true) : 0 ≤ n ∧ n < 6 := of_decide_eq_true h
def upS (l : FL) (d : DFL) (n : Int) (f : FileS) : DFL := if inR n = true then putS l d n f else d
def f0 : FileS := (false, ByteArray.empty)
structure SOk (l : FL) (d : DFL) : Prop where
  s : SortD d
  k : ∀ x ∈ d, (0 ≤ x.1 ∧ x.1 < 6) ∧ goodF x.2.1 x.2.2 = true
  l6 : l.length = 6
  g : ∀ y ∈ l, goodF y.1.1 y.1.2 = true
theorem sort_len6 : ∀ (d : DFL) (a : Nat), SortD d → (∀ x ∈ d, (a : Int) ≤ x.1 ∧ x.1 < 6) → d.length ≤ 6 - a := by
  intro d
  induction d with
  | nil => intro a _ _; simp
  | cons x d ih =>
    intro a s h
    obtain ⟨h1, h2⟩ := h x (by simp)
    obtain ⟨s1, s2⟩ := List.pairwise_cons.1 s
    have := ih (a + 1) s2 (fun y hy => ⟨by have := s1 y hy; omega, (h y (by simp [hy])).2⟩)
    simp only [List.length_cons]; omega
theorem SOk.len {l : FL} {d : DFL} (o : SOk l d) : d.length ≤ 6 := sort_len6 d 0 o.s fun x hx => (o.k x hx).1
theorem atD_mem {d : DFL} {n : Int} {f : FileS} (h : atD d n = some f) : ∃ x ∈ d, x.1 = n ∧ x.2 = f := by
  unfold atD at h
  cases hf : d.find? (fun x => x.1 == n) with
  | none => rw [hf] at h; cases h
  | some x =>
    rw [hf] at h
    have h1 := List.find?_some hf
    exact ⟨x, List.mem_of_find?_eq_some hf, by simpa using h1, by simpa using h⟩
theorem SOk.fat {l : FL} {d : DFL} (o : SOk l d) (n : Int) : goodF (fileAt l n).1.1 (fileAt l n).1.2 = true := by
  by_cases h : 0 ≤ n ∧ n < (l.length : Int)
  · rw [fileAt_in h.1 (by omega)]; exact o.g _ (List.getElem_mem _)
  · rw [fileAt_out h]; rfl
theorem SOk.good {l : FL} {d : DFL} (o : SOk l d) (n : Int) : goodF (getS l d n).1.1 (getS l d n).1.2 = true := by
  cases h : atD d n with
  | none => rw [getS_none h]; exact o.fat n
  | some f =>
    rw [getS_some h]
    obtain ⟨x, hx, _, rfl⟩ := atD_mem h
    exact (o.k x hx).2
theorem goodF_size {b : Bool} {s : ByteArray} (h : goodF b s = true) : s.size ≤ 32 := by unfold goodF at h; simp at h; exact h.1
theorem goodF_put {f : FileS} (h : goodF f.1 f.2 = true) (n : Int) (c : UInt8) : goodF (putF f n c).1 (putF f n c).2 = true := by
  unfold putF
  split
  · rename_i hn
    have := goodF_size h
    unfold goodF
    rw [ba_size, putT_len, bl_length, decide_eq_true (by omega)]; rfl
  · exact h
theorem goodF_cut {f : FileS} (h : goodF f.1 f.2 = true) (n : Int) : goodF (cutF f n).1 (cutF f n).2 = true := by
  unfold cutF
  split
  · rename_i hn
    unfold goodF
    rw [ba_size, cutT_len, decide_eq_true (by omega)]; rfl
  · exact h
theorem goodF_make {f : FileS} (h : goodF f.1 f.2 = true) : goodF true f.2 = true := by
  have := goodF_size h
  unfold goodF; rw [decide_eq_true this]; rfl
theorem SOk.up {l : FL} {d : DFL} (o : SOk l d) {n : Int} {f : FileS} (g : goodF f.1 f.2 = true) : SOk l (upS l d n f) := by
  unfold upS putS
  split
  · rename_i hn
    have hn := inR_t hn
    split
    · exact o
    · refine ⟨o.s.ins, fun x hx => ?_, o.l6, o.g⟩
      rcases insD_mem hx with rfl | hx
      · exact ⟨hn, g⟩
      · exact o.k x hx
  · exact o
def renS (l : FL) (d : DFL) (a b : Int) : DFL := if (inR a && inR b && (getS l d a).1.1 && decide (a ≠ b)) = true then putS l (putS l d b (getS l d a).1) a f0 else d
theorem SOk.ren {l : FL} {d : DFL} (o : SOk l d) (a b : Int) : SOk l (renS l d a b) := by
  unfold renS
  split
  · rename_i h
    simp only [Bool.and_eq_true] at h
    have h1 := o.up (n := b) (o.good a)
    have h2 := h1.up (n := a) (f := f0) rfl
    unfold upS at h1 h2
    rw [if_pos h.1.1.2] at h1 h2
    rw [if_pos h.1.1.1] at h2
    exact h2
  · exact o
section
variable {B : RO} {h0 h h' : Heap} {L : List (Option (Nat × AObj))} {r rd : Option (Nat × AObj)} {v vd : Value} {l z : FL} {d : DFL} {n : Int} {x : ShI} {f : FileS}
end
end Go.Proofs.YtlehephbflgblaaGreat.H
namespace Go.Proofs.YtlehephbflgblaaGreat.H
open Go Go.RowKit
set_option linter.unusedVariables false
set_option maxRecDepth 100000
structure SCall where
  k : Int
  a : Int
  b : Int
  c : UInt8
def SCall.cells (x : SCall) : List Value := [.int .i64 x.k, .int .i64 x.a, .int .i64 x.b, .int .u8 ((x.c.toNat : Nat) : Int)]
theorem SCall.len (x : SCall) : x.cells.length = 4 := rfl
def opD (l : FL) (d : DFL) (x : SCall) : DFL :=
  if x.k = 0 then upS l d x.a (putF (getS l d x.a).1 x.b x.c)
  else if x.k = 1 then upS l d x.a (cutF (getS l d x.a).1 x.b)
  else if x.k = 2 then upS l d x.a (true, (getS l d x.a).1.2)
  else if x.k = 3 then upS l d x.a f0
  else if x.k = 4 then renS l d x.a x.b
  else d
theorem SOk.op {l : FL} {d : DFL} (o : SOk l d) (x : SCall) : SOk l (opD l d x) := by
  unfold opD
  split
  · exact o.up (goodF_put (o.good x.a) _ _)
  · split
    · exact o.up (goodF_cut (o.good x.a) _)
    · split
      · exact o.up (f := (true, (getS l d x.a).1.2)) (goodF_make (f := (getS l d x.a).1) (o.good x.a))
      · split
        · exact o.up rfl
        · split
          · exact o.ren _ _
          · exact o
def opsD (l : FL) (d : DFL) (xs : List SCall) : DFL := xs.foldl (opD l) d
theorem SOk.ops {l : FL} {d : DFL} (o : SOk l d) : ∀ xs : List SCall, SOk l (opsD l d xs) := by
  intro xs
  induction xs generalizing d with
  | nil => exact o
  | cons x xs ih => exact ih (o.op x)
section
variable {B : RO} {h0 h h' : Heap} {L : List (Option (Nat × AObj))} {r rd : Option (Nat × AObj)} {v vd : Value} {l z : FL} {d : DFL} {n : Int} {x : ShI} {f : FileS} {q kd : Nat}
end
end Go.Proofs.YtlehephbflgblaaGreat.H
namespace Go.Proofs.YtlehephbflgblaaGreat.H
open Go Go.RowKit
set_option linter.unusedVariables false
set_option maxRecDepth 100000
section
variable {B : RO} {h0 h h' : Heap} {L : List (Option (Nat × AObj))} {r rd : Option (Nat × AObj)} {v vd : Value} {l z : FL} {d : DFL} {n ver : Int} {x : ShI} {f : FileS} {q kd c : Nat} {a : Option Addr} {xs : List SCall}
def ShI.w (x : ShI) (r : Option (Nat × AObj)) : ShI := { x with rt := r }
end
end Go.Proofs.YtlehephbflgblaaGreat.H
namespace Go.Proofs.YtlehephbflgblaaGreat.H
open Go
set_option linter.unusedVariables false
set_option maxRecDepth 100000
theorem TK.slc_slot_int : slcB PG TY.s_cell_slot_int = some (TY.cell_slot_int, 2, 16) := by kernel_rfl
theorem TK.zero_slot_int : zeroB PG TY.cell_slot_int = some [.int .i64 0, .int .i64 0] := by kernel_rfl
theorem TK.sl_slot_int : slT PG TY.s_cell_slot_int = true := by kernel_rfl
def slotC_int (x : Int × Int) : List Value := [.int .i64 x.1, .int .i64 x.2]
theorem slotC_int_len (x : Int × Int) : (slotC_int x).length = 2 := rfl
def rowO_int (l : List (Int × Int)) : AObj := .vec TY.cell_Row_int [.own TY.cell_slot_int 2 (l.flatMap slotC_int)] 1
def RowP_int (h : Heap) (b : Nat) (a : Option Addr) (m c : Nat) (l : List (Int × Int)) : Prop := FP h b 0 TY.cell_slot_int 2 (l.flatMap slotC_int) a m c
def RowV_int (h : Heap) (b : Nat) (l : List (Int × Int)) : Prop := FV h b 0 TY.cell_slot_int 2 (l.flatMap slotC_int)
theorem RowP_int.v {h : Heap} {b m c : Nat} {a : Option Addr} {l : List (Int × Int)} (R : RowP_int h b a m c l) : RowV_int h b l := FP.fv R
def cellAt_int (l : List (Int × Int)) (i : Int) : Int × Int := if 0 ≤ i then (l[i.toNat]?).getD (0, 0) else (0, 0)
section
variable {B : RO} {h : Heap} {b : Nat} {a : Option Addr} {m c : Nat} {l : List (Int × Int)}
theorem RowP_int.len (R : RowP_int h b a m c l) : m = l.length := (R.2.reads (B := fun _ => none) slotC_int_len (by omega)).1
theorem RowP_int.at (R : RowP_int h b a m c l) : ∀ i x, l[i]? = some x → ∃ A, a = some A ∧ CellsAt B h (A.add (i * 2)) 0 (slotC_int x) := fun i x hx =>
  let ⟨A, e, _, q⟩ := (R.2.reads (B := B) slotC_int_len (by omega)).2 i x hx
  ⟨A, e, q⟩
theorem new_wp_int {n : Int} {x : Int} {Q : Option Addr → Heap → Prop} (hn : n ≤ 1000000) (hQ : ∀ k, h k = none → B k = none → Q (some ⟨k, 0, none⟩) (h.set k (rowO_int (List.replicate n.toNat (x, 0))))) : C_cell_New_int B n x h Q := by
  refine C_cell_New_int.of ?_
  unfold S_cell_New_int
  intro k a1 b1 h5 e5
  obtain ⟨g5, -, -⟩ := Heap.made a1 e5
  have hcl : Ent B h5 (h.set k (rowO_int [])) := by
    have := Ent.close_nil (B := B) (e := TY.cell_slot_int) (sz := 2) (i := 0) g5 rfl
    rw [e5, Heap.set_set] at this
    rw [e5]
    exact this
  refine ⟨fun i m h' => ∃ j : Nat, (j : Int) ≤ max n 0 ∧ i = j ∧ m = n.toNat - j ∧ h' = h.set k (rowO_int (List.replicate j (x, 0))), n.toNat, Fin.ent hcl (Fin.of ⟨0, by omega, rfl, by omega, rfl⟩), ?_⟩
  rintro _ _ _ ⟨j, hj, rfl, rfl, rfl⟩
  refine ⟨fun hlt => ?_, fun hge => ?_⟩
  · have hl := flatMap_length slotC_int_len (List.replicate j (x, (0 : Int)))
    rw [List.length_replicate] at hl
    refine app_own (len := 1) (ys := slotC_int (x, 0)) TK.slc_slot_int TK.zero_slot_int rfl (by omega) (by omega) TK.sl_slot_int (Heap.set_same _ _ _) rfl rfl (by simp [slotC_int, isOne]) (by rw [hl, slotC_int_len]; omega) ?_
    intro a' n' c' h3 h4 s1 s2
    refine ⟨a', n', c', rfl, h4, s1, Fin.ent s2 (Fin.of ⟨n.toNat - (j + 1), by omega, j + 1, by omega, ?_, rfl, ?_⟩)⟩
    · rw [w64 (by omega) (by omega)]; omega
    · rw [Heap.set_set]
      unfold rowO_int
      rw [List.replicate_succ', List.flatMap_append]
      simp
  · have : j = n.toNat := by omega
    subst this
    exact Fin.of (hQ k a1 b1)
end
end Go.Proofs.YtlehephbflgblaaGreat.H
namespace Go.Proofs.YtlehephbflgblaaGreat.H
open Go
set_option linter.unusedVariables false
set_option maxRecDepth 100000
def feedC (ts : List ByteArray) (kR : Nat) : List Value := ts.map Value.string ++ [.pointer (some ⟨kR, 0, none⟩)]
def feedO (ts : List ByteArray) (kR : Nat) : AObj := .vec TY.feed_Feed (plains (feedC ts kR)) 4
def textAt (ts : List ByteArray) (i : Int) : ByteArray := if 0 ≤ i ∧ i < 3 then (ts[i.toNat]?).getD (ByteArray.mk #[]) else ByteArray.mk #[]
def takeB (ts : List ByteArray) (l : List (Int × Int)) (i place : Int) : Bool := decide (0 ≤ i ∧ i < 3 ∧ (cellAt_int l i).1 ≤ place ∧ place ≤ (textAt ts i).size)
def takeL (ts : List ByteArray) (l : List (Int × Int)) (i place v : Int) : List (Int × Int) := if takeB ts l i place = true then l.set i.toNat (place, v) else l
structure FeedOk (ts : List ByteArray) (l : List (Int × Int)) : Prop where
  t3 : ts.length = 3
  l3 : l.length = 3
  size : ∀ i, (textAt ts i).size ≤ 64
  place : ∀ i, 0 ≤ (cellAt_int l i).1 ∧ (cellAt_int l i).1 ≤ (textAt ts i).size
theorem cellAt_int_set {l : List (Int × Int)} {i : Int} (h0 : 0 ≤ i) (h1 : i < l.length) (x : Int × Int) (j : Int) : cellAt_int (l.set i.toNat x) j = if j = i then x else cellAt_int l j := by
  unfold cellAt_int
  by_cases hj : 0 ≤ j
  · rw [if_pos hj, if_pos hj]
    by_cases he : j = i
    · subst he
      rw [if_pos rfl, List.getElem?_set_self (by omega)]; rfl
    · rw [if_neg he, List.getElem?_set_ne (by omega)]
  · rw [if_neg hj, if_neg hj, if_neg (fun he => hj (by omega))]
theorem FeedOk.take {ts : List ByteArray} {l : List (Int × Int)} (k : FeedOk ts l) (i place v : Int) : FeedOk ts (takeL ts l i place v) := by
  unfold takeL
  split
  · rename_i h
    unfold takeB at h
    rw [decide_eq_true_eq] at h
    obtain ⟨h0, h1, h2, h3⟩ := h
    have l3 := k.l3
    refine ⟨k.t3, by rw [List.length_set]; exact k.l3, k.size, fun j => ?_⟩
    rw [cellAt_int_set h0 (by omega)]
    have := k.place i
    split
    · rename_i e; subst e; exact ⟨by omega, h3⟩
    · exact k.place j
  · exact k
section
variable {B : RO} {h : Heap} {kF kR kM : Nat} {ts : List ByteArray} {l l' : List (Int × Int)}
def ts0 : List ByteArray := [ByteArray.empty, ByteArray.empty, ByteArray.empty]
def fl0 : List (Int × Int) := [(0, 0), (0, 0), (0, 0)]
theorem FeedOk.zero : FeedOk ts0 fl0 := by
  have key : ∀ i : Int, textAt ts0 i = ByteArray.empty ∧ (cellAt_int fl0 i) = (0, 0) := fun i => by
    by_cases h : 0 ≤ i ∧ i < 3
    · have : i = 0 ∨ i = 1 ∨ i = 2 := by omega
      rcases this with rfl | rfl | rfl <;> exact ⟨rfl, rfl⟩
    · refine ⟨by rw [textAt, if_neg h]; rfl, ?_⟩
      unfold cellAt_int
      split
      · rw [List.getElem?_eq_none (by simp [fl0]; omega)]; rfl
      · rfl
  exact ⟨rfl, rfl, fun i => by rw [(key i).1]; decide, fun i => by rw [(key i).1, (key i).2]; decide⟩
theorem feed_new_wp {Q : Option Addr → Heap → Prop} (hQ : ∀ kR kF h1 h2, h kR = none → B kR = none → h1 = h.set kR (rowO_int fl0) → h1 kF = none → B kF = none → h2 = h1.set kF (feedO ts0 kR) → Q (some ⟨kF, 0, none⟩) h2) : C_feed_New B h Q := by
  refine C_feed_New.of ?_
  unfold S_feed_New
  refine new_wp_int (by decide) fun kR a1 b1 k4 a4 b4 h5 e5 => Fin.of (hQ kR k4 _ h5 a1 b1 rfl a4 b4 e5)
end
end Go.Proofs.YtlehephbflgblaaGreat.H
namespace Go.Proofs.YtlehephbflgblaaGreat.H
open Go Go.RowKit
set_option linter.unusedVariables false
set_option maxRecDepth 100000
structure StI where
  kd : Nat
  vd : Value
  rd : Option (Nat × AObj)
  ks : Nat
  kf : Nat
  vf : Value
  rf : Option (Nat × AObj)
  kc : Nat
structure StV where
  d : List (Int × Int)
  f : List (Int × (Bool × ByteArray))
  c0 : Int
  c1 : Int
  c2 : Int
def StV.z : StV := ⟨[], [], 0, 0, 0⟩
structure Reg4 where
  a : Int
  b : Int
  c : Int
  d : Int
structure MarkR where
  x : StI
  g : Reg4
  m : Reg4
  place : Int
def MarkR.cells (m : MarkR) : List Value := [.pointer (some ⟨m.x.kd, 0, none⟩), .pointer (some ⟨m.x.ks, 0, none⟩), .pointer (some ⟨m.x.kc, 0, none⟩), .int .i64 m.g.a, .int .i64 m.g.b, .int .i64 m.g.c, .int .i64 m.g.d, .int .i64 m.m.a, .int .i64 m.m.b, .int .i64 m.m.c, .int .i64 m.m.d, .int .i64 m.place]
theorem MarkR.len (m : MarkR) : m.cells.length = 12 := rfl
theorem MarkR.one (m : MarkR) : ∀ y ∈ m.cells, isOne y = true := fun y hy => by
  simp only [MarkR.cells, List.mem_cons, List.not_mem_nil, or_false] at hy
  rcases hy with rfl | rfl | rfl | rfl | rfl | rfl | rfl | rfl | rfl | rfl | rfl | rfl <;> rfl
section
variable {B : RO} {h0 h h' : Heap} {L : List (Option (Nat × AObj))} {r : Option (Nat × AObj)} {i j k : Nat} {a : Option Addr} {m c : Nat} {v : Value} {l : List MarkR} {x : StI} {s : StV} {g mm : Reg4} {place : Int}
end
end Go.Proofs.YtlehephbflgblaaGreat.H
namespace Go.Proofs.YtlehephbflgblaaGreat.H
open Go Go.RowKit
set_option linter.unusedVariables false
set_option maxRecDepth 100000
structure VI where
  kV : Nat
  kC : Nat
  kT : Nat
  kR : Nat
  vt : Value
  rt : Option (Nat × AObj)
  kF : Nat
  kP : Nat
structure VV where
  c : List (Int × Int)
  f : FL
  ts : List ByteArray
  l : List (Int × Int)
  t : Int
def viewO (x : VI) (t : Int) : AObj := .vec TY.attempt_View (plains [.pointer (some ⟨x.kC, 0, none⟩), .pointer (some ⟨x.kT, 0, none⟩), .pointer (some ⟨x.kF, 0, none⟩), .int .i64 t]) 4
def VI.e (x : VI) (v : VV) : List (Option (Nat × AObj)) := [some (x.kV, viewO x v.t), some (x.kC, rowO_int v.c), some (x.kT, tomO x.kR), some (x.kR, frO x.vt), x.rt, some (x.kF, feedO v.ts x.kP), some (x.kP, rowO_int v.l)]
structure VOk (x : VI) (v : VV) : Prop where
  r : FRow x.rt x.vt v.f
  c8 : v.c.length = 8
  f : TomeOk v.f
  k : FeedOk v.ts v.l
def VAt (L : List (Option (Nat × AObj))) (i : Nat) (x : VI) (v : VV) : Prop := ∀ j, j < 7 → L[i + j]? = (x.e v)[j]?
theorem VAt.mk {L R : List (Option (Nat × AObj))} {x : VI} {v : VV} : VAt (L ++ (x.e v ++ R)) L.length x v := fun j hj => by
  rw [List.getElem?_append_right (by omega), Nat.add_sub_cancel_left, List.getElem?_append_left (by exact hj)]
theorem VAt.app {L M : List (Option (Nat × AObj))} {i : Nat} {x : VI} {v : VV} (A : VAt L i x v) : VAt (L ++ M) i x v := fun j hj => by
  have h1 : (x.e v)[j]? = some ((x.e v)[j]'hj) := List.getElem?_eq_getElem hj
  rw [h1]
  exact up_app _ ((A j hj).trans h1)
def vz : VV := ⟨List.replicate 8 (0, 0), List.replicate 6 ((false, ByteArray.empty), 0), ts0, fl0, 0⟩
def part (F Z : List Value) (m : Nat) : List Value := F.take m ++ Z.drop m
theorem wrapS {j : Nat} (h : j < 1000000000) : IntKind.wrap .i64 ((j : Int) + 1) = ((j + 1 : Nat) : Int) := by rw [w64 (by omega) (by omega)]; omega
section
variable {B : RO} {h0 h h' : Heap} {L M : List (Option (Nat × AObj))} {i k n : Nat} {t : TypeId} {x : VI} {v : VV}
theorem VAt.at {k : Nat} {o : AObj} (A : VAt L i x v) (E : Keep B h0 L h) (j : Nat) (hj : j < 7) (e : (x.e v)[j]? = some (some (k, o))) : h k = some o := E.at (i + j) ((A j hj).trans e)
theorem newview_wp {Q : Option Addr → Heap → Prop} (hQ : ∀ x h', VOk x vz → Keep B h (x.e vz) h' → Q (some ⟨x.kV, 0, none⟩) h') : C_attempt_NewView B h Q := by
  refine C_attempt_NewView.of ?_
  unfold S_attempt_NewView
  refine new_wp_int (by decide) fun kC a b => ?_
  have E := (Keep.nil B h).new (o := rowO_int (List.replicate 8 (0, 0))) a b
  refine tnew_wp fun kT kR v r h4 R E1 => ?_
  have E2 := E.append E1
  refine feed_new_wp fun kP kF h1 h2 aP bP e1 aF bF e2 => ?_
  have E3 := (E2.made aP bP e1).made aF bF e2
  intro k8 a8 b8 h9 e9
  have E4 := E3.made a8 b8 e9
  exact Fin.of (hQ ⟨k8, kC, kT, kR, v, r, kF, kP⟩ _ ⟨R, rfl, TomeOk.zero, FeedOk.zero⟩ (E4.picks [6, 0, 1, 2, 3, 5, 4] (by decide)))
end
end Go.Proofs.YtlehephbflgblaaGreat.H
namespace Go.Proofs.YtlehephbflgblaaGreat.H
open Go Go.RowKit
set_option linter.unusedVariables false
set_option maxRecDepth 100000
structure Way where
  q : ByteArray
  s : ByteArray
  t : ByteArray
def wz : Way := ⟨ByteArray.empty, ByteArray.empty, ByteArray.empty⟩
def Way.all (x : Way) : ByteArray := (x.t ++ x.s) ++ x.q
abbrev WR := Way × Way × Way
def wayAt (w : WR) (i : Int) : Way := if i = 0 then w.1 else if i = 1 then w.2.1 else if i = 2 then w.2.2 else wz
def setW (w : WR) (i : Int) (x : Way) : WR := if i = 0 then (x, w.2.1, w.2.2) else if i = 1 then (w.1, x, w.2.2) else if i = 2 then (w.1, w.2.1, x) else w
def WOk (w : WR) : Prop := ∀ i, (wayAt w i).q.size ≤ 1000000000000 ∧ (wayAt w i).s.size ≤ 1000000000000 ∧ (wayAt w i).t.size ≤ 1000000000000
def wirO (w : WR) : AObj := .vec TY.wire_Wire (plains [.string w.1.q, .string w.1.s, .string w.1.t, .string w.2.1.q, .string w.2.1.s, .string w.2.1.t, .string w.2.2.q, .string w.2.2.s, .string w.2.2.t]) 9
structure TkV where
  h : Int
  f : Bool
  c : Int
def tk0 : TkV := ⟨-1, false, -1⟩
def tokO (t : TkV) : AObj := .vec TY.token_Token (plains [.int .i64 t.h, .bool t.f, .int .i64 t.c]) 3
structure Tal where
  a : Int
  b : Int
  c : Int
  d : Int
def talAt (t : Tal) (i : Int) : Int := if i = 0 then t.a else if i = 1 then t.b else if i = 2 then t.c else t.d
def talSet (t : Tal) (i x : Int) : Tal := if i = 0 then { t with a := x } else if i = 1 then { t with b := x } else if i = 2 then { t with c := x } else if i = 3 then { t with d := x } else t
def talAdd (t : Tal) (o : Int × Int) : Tal := talSet t o.1 (IntKind.wrap .i64 (talAt t o.1 + o.2))
structure WS where
  v : VV
  w : WR
  tk : TkV
  tl : Tal
  nt : List (Int × Int)
  n : Int
  f : Int
  cs : List Chg
  k : Nat
  e : Nat
  ar : Int
  sz : Nat
  im : List UInt8
  ls : List (List UInt8)
structure WI where
  V : VI
  kW : Nat
  kU : Nat
  kK : Nat
  vn : Value
  rn : Option (Nat × AObj)
  kD : Nat
  vd : Value
  rd : Option (Nat × AObj)
  kv : Nat
  kl : Nat
def wldO (I : WI) (S : WS) : AObj := .vec TY.world_World (plains [.pointer (some ⟨I.V.kV, 0, none⟩), .pointer (some ⟨I.kU, 0, none⟩), .pointer (some ⟨I.kK, 0, none⟩), .pointer (some ⟨I.kD, 0, none⟩), .pointer (some ⟨I.kv, 0, none⟩), .int .i64 S.tl.a, .int .i64 S.tl.b, .int .i64 S.tl.c, .int .i64 S.tl.d, I.vn, .int .i64 S.n, .int .i64 S.f]) 12
def WI.h (I : WI) (S : WS) : List (Option (Nat × AObj)) := I.V.e S.v ++ [some (I.kW, wldO I S), some (I.kU, wirO S.w), some (I.kK, tokO S.tk), I.rn]
def WI.d (I : WI) (S : WS) : List (Option (Nat × AObj)) := vE I.kD I.kv I.kl S.cs S.k I.vd I.rd S.e true (walO I.kD S.ar S.sz false)
def WI.e (I : WI) (S : WS) : List (Option (Nat × AObj)) := I.h S ++ I.d S
def NoteW (x : Int × Int) : List Value := [.int .i64 x.1, .int .i64 x.2]
structure WK (I : WI) (S : WS) : Prop where
  o : VOk I.V S.v
  nr : Row I.rn I.vn TY.world_Note 2 (S.nt.flatMap NoteW)
  cr : CRow I.rd I.vd (S.cs.drop S.k)
  hk : S.k ≤ S.cs.length
  ok : DOk S.cs
  ar : S.ar = 0 ∨ S.ar = 1
section
variable {B : RO} {h0 h h' : Heap} {L M : List (Option (Nat × AObj))} {I : WI} {S : WS} {i j : Int} {k : Nat}
theorem wirenew_wp {Q : Option Addr → Heap → Prop} (hQ : ∀ k, h k = none → B k = none → Q (some ⟨k, 0, none⟩) (h.set k (wirO (wz, wz, wz)))) : C_wire_New B h Q := by
  refine C_wire_New.of ?_
  unfold S_wire_New
  intro k a b h1 e
  subst e
  exact Fin.of (hQ k a b)
theorem tknew_wp {Q : Option Addr → Heap → Prop} (hQ : ∀ k, h k = none → B k = none → Q (some ⟨k, 0, none⟩) (h.set k (tokO tk0))) : C_token_New B h Q := by
  refine C_token_New.of ?_
  unfold S_token_New
  intro k a b h1 e
  subst e
  exact Fin.of (hQ k a b)
theorem wview_wp {Q : Option Addr → Heap → Prop} (E : Keep B h0 (L ++ (I.e S ++ M)) h) (hQ : Q (some ⟨I.V.kV, 0, none⟩) h) : C_world_World_View B (some ⟨I.kW, 0, none⟩) h Q := by
  refine C_world_World_View.of ?_
  unfold S_world_World_View
  exact ⟨fun e => (by cases e), fun _ => ⟨_, rfl, _, E.cM 7 rfl (i := 0) rfl, Fin.of hQ⟩⟩
theorem wblocks_wp {Q : Int → Heap → Prop} (E : Keep B h0 (L ++ (I.e S ++ M)) h) (hQ : Q S.n h) : C_world_World_Blocks B (some ⟨I.kW, 0, none⟩) h Q := by
  refine C_world_World_Blocks.of ?_
  unfold S_world_World_Blocks
  exact ⟨fun e => (by cases e), fun _ => ⟨_, rfl, _, E.cM 7 rfl (i := 10) rfl, Fin.of hQ⟩⟩
theorem wtallies_wp {Q : Int → Int → Int → Int → Heap → Prop} (E : Keep B h0 (L ++ (I.e S ++ M)) h) (hQ : ∀ h', Keep B h0 (L ++ (I.e S ++ M)) h' → Q S.tl.a S.tl.b S.tl.c S.tl.d h') : C_world_World_Tallies B (some ⟨I.kW, 0, none⟩) h Q := by
  refine C_world_World_Tallies.of ?_
  unfold S_world_World_Tallies
  intro k6 a6 b6 h7 e7
  have E1 := E.made a6 b6 e7
  have g := E1.at (L.length + 7) (up_app _ (upM 7 rfl))
  refine ⟨fun e => (by cases e), fun _ => ⟨_, rfl, S.tl.a, S.tl.b, S.tl.c, S.tl.d, ⟨cellH_vec g rfl, cellH_vec g rfl, cellH_vec g rfl, cellH_vec g rfl, trivial⟩, _, stores_whole E1.last rfl (by simp) (by simp [isOne]) (by simp), ?_⟩⟩
  have E2 := E1.putLast (.vec TY.a_4_int (plains [.int .i64 S.tl.a, .int .i64 S.tl.b, .int .i64 S.tl.c, .int .i64 S.tl.d]) 4)
  have g2 := E2.last
  exact ⟨S.tl.a, S.tl.b, S.tl.c, S.tl.d, ⟨cellH_vec g2 rfl, cellH_vec g2 rfl, cellH_vec g2 rfl, cellH_vec g2 rfl, trivial⟩, Fin.of (hQ _ E2.pop)⟩
theorem wdone_wp {Q : Heap → Prop} (E : Keep B h0 (L ++ (I.e S ++ M)) h) (hQ : ∀ h', Keep B h0 (L ++ (I.e { S with n := IntKind.wrap .i64 (S.n + 1) } ++ M)) h' → Q h') : C_world_World_Done B (some ⟨I.kW, 0, none⟩) h Q := by
  refine C_world_World_Done.of ?_
  unfold S_world_World_Done
  refine ⟨fun e => (by cases e), fun _ => ⟨_, rfl, S.n, E.cM 7 rfl (i := 10) rfl, _, rfl, _, storeH_vec (E.gM 7 rfl) rfl, Fin.of (hQ _ ?_)⟩⟩
  exact E.pM (o' := wldO I { S with n := IntKind.wrap .i64 (S.n + 1) }) 7 rfl
end
end Go.Proofs.YtlehephbflgblaaGreat.H
namespace Go.Proofs.YtlehephbflgblaaGreat.H
open Go Go.RowKit
set_option linter.unusedVariables false
set_option maxRecDepth 100000
noncomputable def stepR (l : List UInt8) : Option (Nat × List UInt8 × List UInt8) :=
  match wordOf l with
  | none => none
  | some (i, r) => if 5 < i then none else match wordOf r with
    | none => none
    | some (n, r2) => if 32 < n ∨ r2.length < n then none else some (i, r2.take n, r2.drop n)
theorem stepR_w0 {l : List UInt8} (h : wordOf l = none) : stepR l = none := by rw [stepR, h]
theorem stepR_i {l r : List UInt8} {i : Nat} (h : wordOf l = some (i, r)) (hi : 5 < i) : stepR l = none := by rw [stepR, h]; simp [hi]
theorem stepR_w1 {l r : List UInt8} {i : Nat} (h : wordOf l = some (i, r)) (h2 : wordOf r = none) : stepR l = none := by rw [stepR, h]; simp [h2]
theorem stepR_n {l r r2 : List UInt8} {i n : Nat} (h : wordOf l = some (i, r)) (h2 : wordOf r = some (n, r2)) (hn : 32 < n ∨ r2.length < n) : stepR l = none := by rw [stepR, h]; simp [h2, hn]
theorem stepR_ok {l r r2 : List UInt8} {i n : Nat} (h : wordOf l = some (i, r)) (hi : ¬ 5 < i) (h2 : wordOf r = some (n, r2)) (hn : ¬ (32 < n ∨ r2.length < n)) : stepR l = some (i, r2.take n, r2.drop n) := by
  rw [stepR, h]; simp only [if_neg hi, h2, if_neg hn]
theorem stepR_some {l t r : List UInt8} {i : Nat} (h : stepR l = some (i, t, r)) : i ≤ 5 ∧ t.length ≤ 32 ∧ l = natB i ++ (natB t.length ++ t) ++ r := by
  unfold stepR at h
  split at h
  · cases h
  · rename_i i' r' hw
    split at h
    · cases h
    · rename_i hi
      split at h
      · cases h
      · rename_i n r2 hw2
        split at h
        · cases h
        · rename_i hn
          simp only [Option.some.injEq, Prod.mk.injEq] at h
          obtain ⟨rfl, rfl, rfl⟩ := h
          have e1 := (wordOf_eq hw).1
          have e2 := (wordOf_eq hw2).1
          have hl : (r2.take n).length = n := by rw [List.length_take]; omega
          refine ⟨by omega, by omega, ?_⟩
          rw [hl, e1, e2]
          simp [List.append_assoc]
theorem stepR_lt {l t r : List UInt8} {i : Nat} (h : stepR l = some (i, t, r)) : r.length < l.length := by
  have e := (stepR_some h).2.2
  have := natB_pos i
  rw [e]
  simp only [List.length_append]; omega
theorem stepR_file {i : Nat} {s : ByteArray} (hi : i ≤ 5) (hs : s.size ≤ 32) (r : List UInt8) : stepR (fileB ((i : Int), true, s) ++ r) = some (i, bl s, r) := by
  have e1 : natI (i : Int) = natB i := by rw [natI, if_neg (by omega), Int.toNat_natCast]
  have hw : wordOf (fileB ((i : Int), true, s) ++ r) = some (i, natB s.size ++ bl s ++ r) := wordOf_some (by unfold fileB; rw [e1]; simp [List.append_assoc]) (by omega)
  have hw2 : wordOf (natB s.size ++ bl s ++ r) = some (s.size, bl s ++ r) := wordOf_some (by simp [List.append_assoc]) (by omega)
  have := bl_length s
  rw [stepR_ok hw (by omega) hw2 (by rw [List.length_append]; omega), ← this, List.take_left, List.drop_left]
noncomputable def readG (l : List UInt8) (last : Int) (z : FL) : Option FL :=
  if l = [] then some z else
  match h : stepR l with
  | none => none
  | some (i, t, r) => if (i : Int) ≤ last then none else readG r i (z.set i ((true, ba t), 0))
termination_by l.length
decreasing_by exact stepR_lt h
theorem readG_nil (last : Int) (z : FL) : readG [] last z = some z := by rw [readG, if_pos rfl]
theorem readG_none {l : List UInt8} {last : Int} {z : FL} (h0 : l ≠ []) (h : stepR l = none) : readG l last z = none := by
  rw [readG, if_neg h0]
  split
  · rfl
  · rename_i h2; rw [h] at h2; cases h2
theorem readG_some {l t r : List UInt8} {i : Nat} {last : Int} {z : FL} (h : stepR l = some (i, t, r)) : readG l last z = if (i : Int) ≤ last then none else readG r i (z.set i ((true, ba t), 0)) := by
  have h0 : l ≠ [] := fun e => by have := stepR_lt h; rw [e] at this; simp at this
  rw [readG, if_neg h0]
  split
  · rename_i h2; rw [h] at h2; cases h2
  · rename_i h2; rw [h] at h2; cases h2; rfl
structure StR (z : FL) (last : Int) : Prop where
  n6 : z.length = 6
  lo : -1 ≤ last
  hi : last < 6
  off : ∀ (q : Nat) (x : FileS × Int), last < (q : Int) → z[q]? = some x → x = ((false, ByteArray.empty), 0)
  on : ∀ x, 0 ≤ last → z[last.toNat]? = some x → x.1.1 = true
  v0 : ∀ x ∈ z, x.2 = 0
  ok : TomeOk z
theorem StR.zero : StR zF (-1) := ⟨rfl, by omega, by omega, fun q x _ h => by
    have := List.mem_of_getElem? h
    exact (List.mem_replicate.1 this).2, fun x h => by omega, fun x hx => by rw [(List.mem_replicate.1 hx).2], TomeOk.zero⟩
theorem ba_small {t : List UInt8} (h : t.length ≤ 32) : (ba t).size ≤ 32 := by rw [ba_size]; exact h
theorem StR.step {z : FL} {last : Int} (k : StR z last) {i : Nat} (hi : i ≤ 5) (hl : ¬ (i : Int) ≤ last) {t : List UInt8} (ht : t.length ≤ 32) : StR (z.set i ((true, ba t), 0)) i := by
  have h6 := k.n6
  refine ⟨by rw [List.length_set]; exact k.n6, by omega, by omega, fun q x hq hx => ?_, fun x _ hx => ?_, fun x hx => ?_, ?_⟩
  · rw [List.getElem?_set_ne (by omega)] at hx
    exact k.off q x (by omega) hx
  · rw [Int.toNat_natCast, List.getElem?_set_self (by omega)] at hx
    cases hx; rfl
  · rcases List.mem_or_eq_of_mem_set hx with h | rfl
    · exact k.v0 x h
    · rfl
  · have e : z.set i ((true, ba t), 0) = setF z i true (ba t) 0 := by
      have hb : setB z i true (ba t) = true := by
        unfold setB goodF
        rw [decide_eq_true (ba_small ht), decide_eq_true (show 0 ≤ (i : Int) ∧ (i : Int) < (z.length : Int) by omega)]; rfl
      rw [setF, hb]; rfl
    rw [e]; exact k.ok.set _ _ _ _
def allN (n : Nat) (l : FL) : List (Int × Bool × ByteArray) := (l.zipIdx n).map fun p => ((p.2 : Int), p.1.1.1, p.1.1.2)
def filesN (n : Nat) (l : FL) : List (Int × Bool × ByteArray) := (allN n l).filter fun x => x.2.1
theorem filesN_append (n : Nat) (l m : FL) : filesN n (l ++ m) = filesN n l ++ filesN (n + l.length) m := by
  unfold filesN allN
  rw [List.zipIdx_append, List.map_append, List.filter_append]
theorem filesN_cons (n : Nat) (x : FileS × Int) (l : FL) : filesN n (x :: l) = (if x.1.1 = true then [((n : Int), true, x.1.2)] else []) ++ filesN (n + 1) l := by
  unfold filesN allN
  rw [List.zipIdx_cons, List.map_cons, List.filter_cons]
  by_cases h : x.1.1 = true
  · simp [h]
  · simp [h]
theorem filesN_off : ∀ (l : FL) (n : Nat), (∀ x ∈ l, x.1.1 = false) → filesN n l = []
  | [], _, _ => rfl
  | x :: l, n, h => by
    rw [filesN_cons, h x (by simp), filesN_off l _ fun y hy => h y (by simp [hy])]; rfl
theorem filesOf_N (l : FL) : filesOf l = filesN 0 l := rfl
theorem StR.bytes {z : FL} {last : Int} (k : StR z last) {i : Nat} (hi : i ≤ 5) (hl : ¬ (i : Int) ≤ last) (t : List UInt8) : tomeB (z.set i ((true, ba t), 0)) = tomeB z ++ (natB i ++ (natB t.length ++ t)) := by
  have h6 := k.n6
  have hd : ∀ x ∈ z.drop (i + 1), x.1.1 = false := fun x hx => by
    obtain ⟨q, hq⟩ := List.getElem?_of_mem hx
    rw [List.getElem?_drop] at hq
    rw [k.off _ x (by omega) hq]
  have hz : z = z.take i ++ (z[i]'(by omega) :: z.drop (i + 1)) := by rw [← List.drop_eq_getElem_cons (by omega), List.take_append_drop]
  have hs : z.set i ((true, ba t), 0) = z.take i ++ (((true, ba t), 0) :: z.drop (i + 1)) := by rw [List.set_eq_take_append_cons_drop, if_pos (by omega)]
  have hzi : (z[i]'(by omega)).1.1 = false := by rw [k.off i _ (by omega) (List.getElem?_eq_getElem (by omega))]
  have e1 : natI (i : Int) = natB i := by rw [natI, if_neg (by omega), Int.toNat_natCast]
  have f1 : filesOf (z.set i ((true, ba t), 0)) = filesN 0 (z.take i) ++ [((i : Int), true, ba t)] := by
    rw [filesOf_N, hs, filesN_append, filesN_cons, filesN_off _ _ hd, List.length_take, Nat.min_eq_left (by omega)]
    simp
  have f2 : filesOf z = filesN 0 (z.take i) := by
    rw [filesOf_N]
    conv => lhs; rw [hz]
    rw [filesN_append, filesN_cons, filesN_off _ _ hd, hzi]
    simp
  unfold tomeB
  rw [f1, f2, List.flatMap_append]
  simp [fileB, e1, ba_size, bl_ba]
theorem readG_props : ∀ (n : Nat) (l : List UInt8) (last : Int) (z z' : FL), l.length ≤ n → StR z last → readG l last z = some z' → tomeB z' = tomeB z ++ l ∧ ∃ last', StR z' last'
  | n, l, last, z, z', hn, k, h => by
    by_cases h0 : l = []
    · subst h0
      rw [readG_nil] at h
      cases h
      exact ⟨by simp, last, k⟩
    · cases hs : stepR l with
      | none => rw [readG_none h0 hs] at h; cases h
      | some p =>
        obtain ⟨i, t, r⟩ := p
        rw [readG_some hs] at h
        split at h
        · cases h
        · rename_i hle
          obtain ⟨a1, a2, a3⟩ := stepR_some hs
          have hlt := stepR_lt hs
          match n, hn with
          | 0, hn => omega
          | n + 1, hn =>
            obtain ⟨b1, b2⟩ := readG_props n r i _ z' (by omega) (k.step a1 hle a2) h
            refine ⟨?_, b2⟩
            rw [b1, k.bytes a1 hle, a3]
            simp [List.append_assoc]
theorem readG_ok {l : List UInt8} {z : FL} (h : readG l (-1) zF = some z) : tomeB z = l ∧ ∃ last, StR z last := by
  obtain ⟨a, b⟩ := readG_props _ l (-1) zF z (Nat.le_refl _) StR.zero h
  refine ⟨?_, b⟩
  rw [a]
  have : tomeB zF = [] := rfl
  rw [this]; rfl
def unver (z : FL) : FL := z.map fun x => (x.1, 0)
theorem good_off {x : FileS × Int} (h : goodF x.1.1 x.1.2 = true) (hb : x.1.1 = false) : (x.1, (0 : Int)) = ((false, ByteArray.empty), 0) := by
  unfold goodF at h
  rw [hb] at h
  simp at h
  obtain ⟨⟨b, s⟩, v⟩ := x
  simp at h hb
  simp only [Prod.mk.injEq, and_true]
  exact ⟨hb, h.2⟩
theorem readG_back {z : FL} (k : TomeOk z) : ∀ (n p : Nat) (last : Int), p + n = 6 → last < p → readG ((filesN p (z.drop p)).flatMap fileB) last ((unver z).take p ++ List.replicate n ((false, ByteArray.empty), 0)) = some (unver z)
  | 0, p, last, hp, hl => by
    have h6 := k.n6
    rw [List.drop_eq_nil_of_le (by omega)]
    have : filesN p [] = [] := rfl
    rw [this, List.flatMap_nil, readG_nil, List.take_of_length_le (by simp [unver]; omega)]
    simp
  | n + 1, p, last, hp, hl => by
    have h6 := k.n6
    have hpl : p < z.length := by omega
    have hg := k.good z[p] (List.getElem_mem hpl)
    have hsz := k.size z[p] (List.getElem_mem hpl)
    have hu : (unver z).length = 6 := by simp [unver]; exact h6
    have huv : (unver z)[p]'(by omega) = (z[p].1, 0) := by simp [unver]
    have htk : (unver z).take (p + 1) = (unver z).take p ++ [(z[p].1, 0)] := by rw [List.take_succ_eq_append_getElem (by omega), huv]
    have hlt : ((unver z).take p).length = p := by rw [List.length_take]; omega
    rw [List.drop_eq_getElem_cons hpl, filesN_cons]
    cases hb : z[p].1.1 with
    | false =>
      have ih := readG_back k n (p + 1) last (by omega) (by omega)
      rw [htk, good_off hg hb] at ih
      rw [List.replicate_succ, if_neg (by simp), List.nil_append]
      rw [List.append_assoc] at ih
      exact ih
    | true =>
      have ih := readG_back k n (p + 1) p (by omega) (by omega)
      rw [htk] at ih
      rw [if_pos rfl, List.singleton_append, List.flatMap_cons, readG_some (stepR_file (by omega) hsz _), if_neg (by omega)]
      have e : ((unver z).take p ++ List.replicate (n + 1) ((false, ByteArray.empty), (0 : Int))).set p ((true, ba (bl z[p].1.2)), 0) = (unver z).take p ++ [(z[p].1, 0)] ++ List.replicate n ((false, ByteArray.empty), 0) := by
        rw [List.set_append_right _ _ (by omega), hlt, Nat.sub_self, List.replicate_succ, List.set_cons_zero, ba_bl, List.append_assoc]
        have : z[p].1 = (true, z[p].1.2) := by rw [← hb]
        rw [← this]; rfl
      rw [e]; exact ih
theorem readG_tome {z : FL} (k : TomeOk z) : readG (tomeB z) (-1) zF = some (unver z) := by
  have := readG_back k 6 0 (-1) rfl (by omega)
  simpa [tomeB, filesOf_N, zF] using this
end Go.Proofs.YtlehephbflgblaaGreat.H
namespace Go.Proofs.YtlehephbflgblaaGreat.H
open Go Go.RowKit
set_option linter.unusedVariables false
set_option maxRecDepth 100000
theorem stepR_read (l : List UInt8) : ((rText 32 (rNat 5 l false).2.1 (rNat 5 l false).2.2).2.2 = true → stepR l = none) ∧ ((rText 32 (rNat 5 l false).2.1 (rNat 5 l false).2.2).2.2 = false → stepR l = some ((rNat 5 l false).1, (rText 32 (rNat 5 l false).2.1 (rNat 5 l false).2.2).1, (rText 32 (rNat 5 l false).2.1 (rNat 5 l false).2.2).2.1)) := by
  have bad : rText 32 [] true = ([], [], true) := by
    rw [rText, rNat, rWord_bad]; simp [rRaw]
  cases hw : wordOf l with
  | none =>
    have e : rNat 5 l false = (0, [], true) := by rw [rNat, rWord_none hw]; simp
    rw [e]
    simp only [bad]
    exact ⟨fun _ => stepR_w0 hw, fun h => by cases h⟩
  | some p =>
    obtain ⟨i, r⟩ := p
    by_cases hi : 5 < i
    · have e : rNat 5 l false = (0, [], true) := by rw [rNat, rWord_some hw]; simp; omega
      rw [e]
      simp only [bad]
      exact ⟨fun _ => stepR_i hw hi, fun h => by cases h⟩
    · have e : rNat 5 l false = (i, r, false) := by rw [rNat, rWord_some hw, if_neg (by simp only; omega)]
      rw [e]
      simp only
      cases hw2 : wordOf r with
      | none =>
        have e2 : rText 32 r false = ([], [], true) := by rw [rText, rNat, rWord_none hw2]; simp [rRaw]
        rw [e2]
        exact ⟨fun _ => stepR_w1 hw hw2, fun h => by cases h⟩
      | some p2 =>
        obtain ⟨n, r2⟩ := p2
        by_cases hn : 32 < n
        · have e2 : rText 32 r false = ([], [], true) := by
            have : rNat 32 r false = (0, [], true) := by rw [rNat, rWord_some hw2]; simp; omega
            rw [rText, this]; simp [rRaw]
          rw [e2]
          exact ⟨fun _ => stepR_n hw hw2 (.inl hn), fun h => by cases h⟩
        · have e1 : rNat 32 r false = (n, r2, false) := by rw [rNat, rWord_some hw2, if_neg (by simp only; omega)]
          by_cases hs : r2.length < n
          · have e2 : rText 32 r false = ([], [], true) := by
              rw [rText, e1, rRaw, if_pos (by simp only; omega)]
            rw [e2]
            exact ⟨fun _ => stepR_n hw hw2 (.inr hs), fun h => by cases h⟩
          · have e2 : rText 32 r false = (r2.take n, r2.drop n, false) := by
              rw [rText, e1, rRaw, if_neg (by simp only; simp; omega)]
              simp
            rw [e2]
            exact ⟨fun h => (by cases h), fun _ => stepR_ok hw hi hw2 (by omega)⟩
section
variable {B : RO} {h0 h h' : Heap} {L : List (Option (Nat × AObj))} {Q : Bool → Heap → Prop} {k6 kT kR k16 k18 k32 : Nat} {v : Value} {r : Option (Nat × AObj)} {l : FL} {n : Int} {s : ByteArray}
theorem tread_wp {Q : Option Addr → Bool → Heap → Prop} (E : Keep B h0 L h) (hN : readG (bl s) (-1) zF = none → ∀ h', Keep B h0 L h' → Q none false h')
    (hS : ∀ z, readG (bl s) (-1) zF = some z → ∀ kT kR v r h', FRow r v z → Keep B h0 (L ++ tomE kT kR v r) h' → Q (some ⟨kT, 0, none⟩) true h') : C_tome_Read B s h Q := by
  refine C_tome_Read.of ?_
  unfold S_tome_Read
  refine tnew_wp fun kT kR v r h4 R E1 => rof_wp (ba_bl s).symm fun k7 a7 b7 => ?_
  have E2 := (E.append E1).new (o := rdO (bl s) false) a7 b7
  refine ⟨fun i m h' => ∃ (l : List UInt8) (z : FL) (r : Option (Nat × AObj)), m = l.length ∧ FRow r v z ∧ StR z i ∧ readG l i z = readG (bl s) (-1) zF ∧ Keep B h0 (L ++ tomE kT kR v r ++ [some (k7, rdO l false)]) h', (bl s).length, Fin.of ⟨_, _, r, rfl, R, StR.zero, rfl, E2⟩, ?_⟩
  clear E2 E1 R
  rintro last _ h9 ⟨l, z, r, rfl, R, K, hg, E⟩
  refine rleft_wp E.last ⟨fun h0' => ?_, fun h0' => ?_⟩
  · refine rnat_wp (by decide) E.last ?_
    have E1 := E.putLast (rdO (rNat 5 l false).2.1 (rNat 5 l false).2.2)
    refine rtext_wp (by decide) E1.last ?_
    have E2 := E1.putLast (rdO (rText 32 (rNat 5 l false).2.1 (rNat 5 l false).2.2).2.1 (rText 32 (rNat 5 l false).2.1 (rNat 5 l false).2.2).2.2)
    have hst := stepR_read l
    generalize rNat 5 l false = p1 at E2 hst
    generalize rText 32 p1.2.1 p1.2.2 = p2 at E2 hst
    have hne : l ≠ [] := fun e => by rw [e] at h0'; simp at h0'
    refine rbad_wp E2.last ⟨fun hb => Fin.of (hN ?_ _ E2.popL.popL), fun hb => ⟨fun hle => Fin.of (hN ?_ _ E2.popL.popL), fun hgt => Fin.of ?_⟩⟩
    · rw [← hg, readG_none hne (hst.1 hb)]
    · rw [← hg, readG_some (hst.2 hb), if_pos hle]
    · have hs := hst.2 hb
      obtain ⟨f1, f2, f3⟩ := stepR_some hs
      unfold S_tome_Read_J1
      have n6 := K.n6
      refine tset_wp (i := L.length) (kR := kR) E2 ⟨?_, ?_, ?_⟩ R fun r' h23 R' E3 => ?_
      · rw [List.append_assoc, List.getElem?_append_right (Nat.le_refl _), Nat.sub_self]; rfl
      · rw [List.append_assoc, List.getElem?_append_right (by omega), show L.length + 1 - L.length = 1 by omega]; rfl
      · rw [List.append_assoc, List.getElem?_append_right (by omega), show L.length + 1 + 1 - L.length = 2 by omega]; rfl
      · have hB : setB z p1.1 true (ba p2.1) = true := by
          unfold setB goodF
          rw [decide_eq_true (ba_small f2), decide_eq_true (show 0 ≤ ((p1.1 : Nat) : Int) ∧ ((p1.1 : Nat) : Int) < (z.length : Int) by omega)]; rfl
        rw [setF, hB, if_pos rfl, Int.toNat_natCast] at R'
        have e3 : (L ++ tomE kT kR v r ++ [some (k7, rdO p2.2.1 p2.2.2)]).set (L.length + 2) r' = L ++ tomE kT kR v r' ++ [some (k7, rdO p2.2.1 p2.2.2)] := by
          rw [List.append_assoc, List.set_append_right _ _ (by omega), show L.length + 2 - L.length = 2 by omega, List.append_assoc]; rfl
        rw [e3, hb] at E3
        refine Fin.of ⟨p2.2.1.length, stepR_lt hs, p2.2.1, _, r', rfl, R', K.step f1 hgt f2, ?_, E3⟩
        rw [← hg, readG_some hs, if_neg hgt]
  · have : l = [] := List.length_eq_zero_iff.1 (by omega)
    subst this
    rw [readG_nil] at hg
    exact Fin.of (hS z hg.symm _ _ _ _ _ R E.pop)
end
end Go.Proofs.YtlehephbflgblaaGreat.H
namespace Go.Proofs.YtlehephbflgblaaGreat.H
open Go Go.RowKit
set_option linter.unusedVariables false
set_option maxRecDepth 100000
noncomputable def readW (im : List UInt8) : Option (FL × Nat) := if im = [] then some (zF, 0) else match natT 1099511627776 im with
  | none => none
  | some (n, r) => (readG r (-1) zF).map fun z => (z, n)
theorem readW_nil : readW [] = some (zF, 0) := by unfold readW; rw [if_pos rfl]
theorem readW_0 {im : List UInt8} (h : im ≠ []) (h1 : natT 1099511627776 im = none) : readW im = none := by unfold readW; rw [if_neg h, h1]
theorem readW_1 {im r : List UInt8} {n : Nat} (h : im ≠ []) (h1 : natT 1099511627776 im = some (n, r)) : readW im = (readG r (-1) zF).map fun z => (z, n) := by unfold readW; rw [if_neg h, h1]
noncomputable def openF (F : TDL) : Option (FL × Int) := match readW F.im with
  | none => none
  | some (z, n) => if (goods (F.ls.map ba)).length < F.ls.length then none else some (apCs 0 z (chsOf (goods (F.ls.map ba))), if lastOf (goods (F.ls.map ba)) > n then lastOf (goods (F.ls.map ba)) else n)
theorem openF_0 {F : TDL} (h : readW F.im = none) : openF F = none := by unfold openF; rw [h]
theorem openF_1 {F : TDL} {z : FL} {n : Nat} (h : readW F.im = some (z, n)) (h1 : (goods (F.ls.map ba)).length < F.ls.length) : openF F = none := by unfold openF; rw [h]; simp only; rw [if_pos h1]
theorem openF_2 {F : TDL} {z : FL} {n : Nat} (h : readW F.im = some (z, n)) (h1 : ¬ (goods (F.ls.map ba)).length < F.ls.length) : openF F = some (apCs 0 z (chsOf (goods (F.ls.map ba))), if lastOf (goods (F.ls.map ba)) > n then lastOf (goods (F.ls.map ba)) else n) := by unfold openF; rw [h]; simp only; rw [if_neg h1]
theorem TomeOk.chs {ver : Int} : ∀ (xs : DFL) {l : FL}, TomeOk l → (∀ x ∈ xs, GoodC x) → TomeOk (apCs ver l xs) := by
  intro xs
  induction xs with
  | nil => intro l k _; exact k
  | cons x xs ih =>
    intro l k g
    rw [apCs_cons]
    refine ih ?_ fun y hy => g y (by simp [hy])
    obtain ⟨g1, g2, g3⟩ := g x (by simp)
    have := k.n6
    exact ⟨by unfold apC; rw [List.length_set]; exact this, fun y hy => by
      unfold apC at hy
      rcases List.mem_or_eq_of_mem_set hy with h | h
      · exact k.good y h
      · subst h; exact g3⟩
theorem goods_good : ∀ (bs : List ByteArray), ∀ p ∈ goods bs, (∀ x ∈ p.2, GoodC x) ∧ p.1 ≤ 1099511627776 := by
  intro bs
  induction bs with
  | nil => intro p hp; simp [goods] at hp
  | cons b bs ih =>
    intro p hp
    cases h : loadOf (bl b) with
    | none => rw [goods_none h] at hp; cases hp
    | some q =>
      rw [goods_some h] at hp
      rcases List.mem_cons.1 hp with rfl | hp
      · obtain ⟨n, xs⟩ := p
        obtain ⟨_, _, g, hn⟩ := loadOf_some h
        exact ⟨g, hn⟩
      · exact ih p hp
theorem lastOf_le : ∀ (l : List (Nat × DFL)) (m : Int), 0 ≤ m → m ≤ 1099511627776 → (∀ p ∈ l, p.1 ≤ 1099511627776) → 0 ≤ l.foldl (fun m p => if ((p.1 : Nat) : Int) > m then ((p.1 : Nat) : Int) else m) m ∧ l.foldl (fun m p => if ((p.1 : Nat) : Int) > m then ((p.1 : Nat) : Int) else m) m ≤ 1099511627776 := by
  intro l
  induction l with
  | nil => intro m h0 h1 _; exact ⟨h0, h1⟩
  | cons p l ih =>
    intro m h0 h1 hp
    have := hp p (by simp)
    exact ih _ (by dsimp only; split <;> omega) (by dsimp only; split <;> omega) fun q hq => hp q (by simp [hq])
theorem openF_ok {F : TDL} {z : FL} {n : Int} (h : openF F = some (z, n)) : TomeOk z ∧ 0 ≤ n ∧ n ≤ 1099511627776 := by
  cases hr : readW F.im with
  | none => rw [openF_0 hr] at h; cases h
  | some p =>
    obtain ⟨z0, n0⟩ := p
    by_cases hl : (goods (F.ls.map ba)).length < F.ls.length
    · rw [openF_1 hr hl] at h; cases h
    · rw [openF_2 hr hl] at h
      cases h
      have hg := goods_good (F.ls.map ba)
      have hL := lastOf_le (goods (F.ls.map ba)) 0 (by omega) (by omega) fun p hp => (hg p hp).2
      have hz : TomeOk z0 ∧ n0 ≤ 1099511627776 := by
        by_cases hi : F.im = []
        · rw [hi, readW_nil] at hr; cases hr; exact ⟨TomeOk.zero, by omega⟩
        · cases ht : natT 1099511627776 F.im with
          | none => rw [readW_0 hi ht] at hr; cases hr
          | some p =>
            obtain ⟨m, r⟩ := p
            rw [readW_1 hi ht] at hr
            obtain ⟨z1, hz1, e⟩ := Option.map_eq_some_iff.1 hr
            cases e
            obtain ⟨_, last, K⟩ := readG_ok hz1
            exact ⟨K.ok, (natT_eq ht).2⟩
      refine ⟨TomeOk.chs _ hz.1 fun x hx => ?_, ?_, ?_⟩
      · obtain ⟨p, hp, hx⟩ := List.mem_flatMap.1 hx
        exact (hg p hp).1 x hx
      · show 0 ≤ if lastOf _ > _ then lastOf _ else _
        have : lastOf (goods (F.ls.map ba)) = (goods (F.ls.map ba)).foldl (fun m p => if ((p.1 : Nat) : Int) > m then ((p.1 : Nat) : Int) else m) 0 := rfl
        split <;> omega
      · have : lastOf (goods (F.ls.map ba)) = (goods (F.ls.map ba)).foldl (fun m p => if ((p.1 : Nat) : Int) > m then ((p.1 : Nat) : Int) else m) 0 := rfl
        have := hz.2
        split <;> omega
theorem natB_6 {n : Nat} (h : n ≤ 1099511627776) : (natB n).length ≤ 6 := natB_length_le 6 n (by omega) (by omega)
theorem natB_1b {n : Nat} (h : n < 128) : (natB n).length = 1 := by rw [natB_lo h]; rfl
theorem natI_6 {n : Int} (h : n ≤ 1099511627776) : (natI n).length ≤ 6 := by
  unfold natI; split
  · simp
  · exact natB_6 (by omega)
theorem tomeB_len {l : FL} (k : TomeOk l) : (tomeB l).length ≤ 204 := by
  have h1 : ∀ x ∈ filesOf l, (fileB x).length ≤ 34 := fun x hx => by
    obtain ⟨y, hy, e, h0, h6⟩ := filesOf_mem hx
    have hs := k.size y hy
    have h6' := k.n6
    rw [← show x.2.2 = y.1.2 by rw [e]] at hs
    unfold fileB
    have e1 : (natI x.1).length ≤ 1 := by
      unfold natI; split
      · simp
      · rw [natB_1b (by omega)]; exact Nat.le_refl _
    rw [List.length_append, List.length_append, natB_1b (by omega), bl_length]; omega
  have h2 : ∀ xs : List (Int × Bool × ByteArray), (∀ x ∈ xs, (fileB x).length ≤ 34) → (xs.flatMap fileB).length ≤ 34 * xs.length := by
    intro xs
    induction xs with
    | nil => intro _; simp
    | cons x xs ih =>
      intro h
      have := ih fun y hy => h y (by simp [hy])
      have := h x (by simp)
      rw [List.flatMap_cons, List.length_append, List.length_cons]; omega
  have h3 : (filesOf l).length ≤ 6 := by
    have := List.length_filter_le (fun x : Int × Bool × ByteArray => x.2.1) (allF l)
    rw [allF_len, k.n6] at this
    exact this
  have := h2 _ h1
  unfold tomeB
  omega
section
variable {B : RO} {h0 h h' : Heap} {L M : List (Option (Nat × AObj))} {I : WI} {S : WS} {i j kT kR kD k : Nat} {l : FL} {v : Value} {r : Option (Nat × AObj)} {cs : List Chg}
theorem image21_wp {n : Int} {Q : ByteArray → Heap → Prop} (E : Keep B h0 L h) (A : TomeAt L i kT kR v r) (R : FRow r v l) (k : TomeOk l) (hn : n ≤ 1099511627776) (hQ : ∀ h', Keep B h0 L h' → Q (ba (natI n ++ tomeB l)) h') : C_world_image B n (some ⟨kT, 0, none⟩) h Q := by
  refine C_world_image.of ?_
  unfold S_world_image
  intro k4 a4 b4 h5 e5 k6 a6 b6 h7 e7
  have E1 := (E.start.nM a4 b4 e5).nM a6 b6 e7
  refine Spec.ent (styl_new (E1.gM 0 rfl)) ?_
  have E2 := E1.pM (o' := stylO []) 0 rfl
  refine nat_wp (ns := [n]) (E2.gM 0 rfl) (fun i m hi => ?_) (by intro m hm; simp at hm; omega) (by simp) ?_
  · have hne : k6 ≠ k4 := fun e => absurd e (E2.ne (L.length + 1) (L.length + 0) (upM 1 rfl) (upM 0 rfl) (by omega))
    match i with
    | 0 => cases hi; exact ⟨_, rfl, hne, cellH_vec (E2.gM 1 rfl) rfl⟩
    | i + 1 => cases hi
  have E3 := (E2.pM (o' := stylO (natI n)) 0 rfl).tM 1
  have e1 : ([] ++ natsB [n] : List UInt8) = natI n := by simp [natsB]
  rw [e1]
  have hi6 := natI_6 hn
  have ht := tomeB_len k
  refine tbytes_wp E3 A.app R k fun h9 E4 => ?_
  have E4 : Keep B h0 (L ++ [some (k4, stylO (natI n))]) h9 := E4
  refine raw_wp E4.last (by rw [ba_size]; omega) ?_
  rw [bl_ba]
  have E5 := E4.putLast (stylO (natI n ++ tomeB l))
  exact bytes_wp E5.last (Fin.of (hQ _ E5.pop))
theorem wread_wp {im : List UInt8} {Q : Int → Option Addr → Bool → Heap → Prop} (E : Keep B h0 L h) (hN : readW im = none → ∀ n p h', Keep B h0 L h' → Q n p false h')
    (hS : ∀ z n, readW im = some (z, n) → ∀ kT kR v r h', FRow r v z → Keep B h0 (L ++ tomE kT kR v r) h' → Q (n : Nat) (some ⟨kT, 0, none⟩) true h') : C_world_read B (ba im) h Q := by
  refine C_world_read.of ?_
  unfold S_world_read
  refine ⟨fun e => ?_, fun e => ?_⟩
  · have : im = [] := ba_inj e
    subst this
    exact tnew_wp fun kT kR v r h6 R E1 => Fin.of (hS _ _ readW_nil kT kR v r h6 R (E.append E1))
  · have hne : im ≠ [] := fun h => e (by rw [h]; rfl)
    refine rof_wp rfl fun k9 a9 b9 => ?_
    have E1 := E.new (o := rdO im false) a9 b9
    refine rnat_wp (by decide) E1.last ?_
    have E2 := E1.putLast (rdO (rNat 1099511627776 im false).2.1 (rNat 1099511627776 im false).2.2)
    refine rbad_wp E2.last ?_
    cases ht : natT 1099511627776 im with
    | none =>
      have f0 : rNat 1099511627776 im false = (0, [], true) := rNat_none ht
      rw [f0] at E2 ⊢
      exact ⟨fun _ => Fin.of (hN (readW_0 hne ht) _ _ _ E2.pop), fun e => by cases e⟩
    | some p =>
      obtain ⟨n, rr⟩ := p
      have f0 : rNat 1099511627776 im false = (n, rr, false) := rNat_some ht
      rw [f0] at E2 ⊢
      have hr := readW_1 hne ht
      refine ⟨fun e => (by cases e), fun _ => rleft_wp E2.last (rraw_wp E2.last ?_)⟩
      have f2 : rRaw ((rr.length : Nat) : Int) rr false = (rr, [], false) := by
        have := rRaw_ok rr []
        rwa [List.append_nil] at this
      have E3 := E2.putLast (rdO (rRaw ((rr.length : Nat) : Int) rr false).2.1 (rRaw ((rr.length : Nat) : Int) rr false).2.2)
      show C_tome_Read B (ba (rRaw ((rr.length : Nat) : Int) rr false).1) _ _
      refine tread_wp E3.pop (fun hn h18 E4 => Fin.of (hN ?_ _ _ _ E4)) fun z hz kT kR v r h18 R E4 => Fin.of (hS z n ?_ kT kR v r _ R E4)
      · rw [f2, bl_ba] at hn; rw [hr, hn]; rfl
      · rw [f2, bl_ba] at hz; rw [hr, hz]; rfl
noncomputable def openS (cs : List Chg) (z : FL) (n : Int) : WS :=
  { v := { vz with f := z }, w := (wz, wz, wz), tk := tk0, tl := ⟨0, 0, 0, 0⟩, nt := [], n := n, f := 0, cs := stl (aOf cs) (fOf cs).e (natI n ++ tomeB z) cs, k := (stl (aOf cs) (fOf cs).e (natI n ++ tomeB z) cs).length, e := (fOf cs).e + 1, ar := 1 - aOf cs, sz := (imgL ((fOf cs).e + 1) (natI n ++ tomeB z)).length + 6, im := natI n ++ tomeB z, ls := [] }
theorem aOf_or (cs : List Chg) : aOf cs = 0 ∨ aOf cs = 1 := by unfold aOf areaL; split <;> simp
theorem SRow.strs {a : Option Addr} {c : Nat} {ls : List (List UInt8)} {r : Option (Nat × AObj)} (R : SRow r (.slice a ls.length c) ls) {h : Heap} (hr : ∀ k o, r = some (k, o) → h k = some o) : Reads B h a 1 (fun s : ByteArray => [.string s]) (ls.map ba) := fun j x hx => by
  rw [List.getElem?_map] at hx
  obtain ⟨y, hy, rfl⟩ := Option.map_eq_some_iff.1 hx
  exact ((Row.rd (B := B) R strC_len (by omega)).2 h hr) j y hy
theorem CRow.done (cs : List Chg) : CRow none (.slice none 0 0) (cs.drop cs.length) := by rw [List.drop_length]; exact Row.nil _ _
set_option maxHeartbeats 1000000 in
theorem worldopen_wp {Q : Option Addr → Int → Heap → Prop} (E : Keep B h0 (L ++ [some (kD, dskO cs k v), r]) h) (R : CRow r v (cs.drop k)) (hk : k ≤ cs.length) (ok : DOk cs) (hl : cs.length ≤ 10000) (hls : (fOf cs).ls.length ≤ 1000000)
    (hN : openF (fOf cs) = none → ∀ h', Keep B h0 (L ++ [some (kD, dskO cs k v), r]) h' → Q none 4 h')
    (hF : ∀ z n, openF (fOf cs) = some (z, n) → 1099511627776 ≤ (fOf cs).e → ∀ h', Keep B h0 (L ++ [some (kD, dskO cs k v), r]) h' → Q none 6 h')
    (hS : ∀ z n, openF (fOf cs) = some (z, n) → (fOf cs).e < 1099511627776 → ∀ I h', I.kD = kD → WK I (openS cs z n) → Keep B h0 (L ++ I.e (openS cs z n)) h' → Q (some ⟨I.kW, 0, none⟩) 0 h') : C_world_Open B (some ⟨kD, 0, none⟩) h Q := by
  refine C_world_Open.of ?_
  unfold S_world_Open
  refine vopen_wp (i := L.length + 0) E (DAt.m 0 rfl rfl) ok fun kv kl a7 c9 r7 h4 R7 E1 k11 a11 b11 h12 e12 => ?_
  rw [List.append_assoc] at E1
  have E2 := E1.nM a11 b11 e12
  refine ⟨_, stores_whole (E2.gM 5 rfl) rfl (by simp) (by simp [isOne]) (by simp), fun _ => ?_, fun e => absurd rfl e⟩
  have E3 : Keep B h0 (L ++ [some (kD, dskO cs k v), r, some (kv, vltO kD kl (fOf cs).e false), some (kl, vlog kD (aOf cs) cs), r7, some (k11, foundO (fOf cs).im (.slice a7 (fOf cs).ls.length c9))]) _ := E2.pM (o' := foundO (fOf cs).im (.slice a7 (fOf cs).ls.length c9)) 5 rfl
  clear E E1 E2 e12
  refine ⟨_, E3.cM 5 rfl (i := 0) rfl, wread_wp E3 (fun hn n p h15 E4 => ⟨fun e => (by cases e), fun _ => Fin.of (hN (openF_0 hn) _ (E4.tM 2))⟩) fun z n hz kT kR vt rt h15 Rt E4 => ⟨fun _ => ?_, fun e => by cases e⟩⟩
  have E5 : Keep B h0 (L ++ [some (kD, dskO cs k v), r, some (kv, vltO kD kl (fOf cs).e false), some (kl, vlog kD (aOf cs) cs), r7, some (k11, foundO (fOf cs).im (.slice a7 (fOf cs).ls.length c9)), some (kT, tomO kR), some (kR, frO vt), rt]) h15 := by
    rw [List.append_assoc] at E4; exact E4
  clear E3 E4
  have hz6 : TomeOk z := by
    by_cases hi : (fOf cs).im = []
    · rw [hi, readW_nil] at hz; cases hz; exact TomeOk.zero
    · cases ht : natT 1099511627776 (fOf cs).im with
      | none => rw [readW_0 hi ht] at hz; cases hz
      | some p =>
        obtain ⟨m, q⟩ := p
        rw [readW_1 hi ht] at hz
        obtain ⟨z1, hz1, e⟩ := Option.map_eq_some_iff.1 hz
        cases e
        obtain ⟨_, last, K⟩ := readG_ok hz1
        exact K.ok
  refine .inl ⟨_, _, _, E5.cM 5 rfl (i := 1) rfl, ?_⟩
  have hbl : ((fOf cs).ls.map ba).length = (fOf cs).ls.length := List.length_map ..
  have rep : ∀ {P : Int → Int → Heap → Prop}, C_redo_Replay B (some ⟨kT, 0, none⟩) a7 ((fOf cs).ls.map ba).length c9 h15 P → C_redo_Replay B (some ⟨kT, 0, none⟩) a7 (fOf cs).ls.length c9 h15 P := fun h => by rw [hbl] at h; exact h
  refine rep (redo_replay_wp (i := L.length + 6) E5 ⟨upM 6 rfl, ⟨upM 7 rfl, upM 8 rfl⟩⟩ Rt hz6.n6 (by rw [hbl]; exact hls) (fun r' h' E6 => ?_) fun rt' h23 Rt' E6 => ?_)
  · rw [show L.length + 6 + 2 = L.length + 8 from rfl, setM] at E6
    exact SRow.strs R7 fun k o e => E6.gM 4 (by rw [← e]; rfl)
  rw [show L.length + 6 + 2 = L.length + 8 from rfl, setM] at E6
  have E6 : Keep B h0 (L ++ [some (kD, dskO cs k v), r, some (kv, vltO kD kl (fOf cs).e false), some (kl, vlog kD (aOf cs) cs), r7, some (k11, foundO (fOf cs).im (.slice a7 (fOf cs).ls.length c9)), some (kT, tomO kR), some (kR, frO vt), rt']) h23 := E6
  clear E5
  refine .inl ⟨_, _, _, E6.cM 5 rfl (i := 1) rfl, fun hlt => Fin.of (hN (openF_1 hz (by omega)) _ (E6.tM 2)), fun hge => ?_⟩
  have ho := openF_2 hz (by omega)
  obtain ⟨k1, k2, k3⟩ := openF_ok ho
  generalize hzz : apCs 0 z (chsOf (goods ((fOf cs).ls.map ba))) = zz at *
  generalize hnn : (if lastOf (goods ((fOf cs).ls.map ba)) > ((n : Nat) : Int) then lastOf (goods ((fOf cs).ls.map ba)) else ((n : Nat) : Int)) = nn at *
  refine image21_wp (i := L.length + 6) E6 ⟨upM 6 rfl, ⟨upM 7 rfl, upM 8 rfl⟩⟩ Rt' k1 k3 fun h30 E7 => ?_
  by_cases he : 1099511627776 ≤ (fOf cs).e
  · exact vsettle_full (E7.gM 2 rfl) he ⟨fun e => absurd e (by decide), fun _ => Fin.of (hF zz nn ho he _ (E7.tM 2))⟩
  have he' : (fOf cs).e < 1099511627776 := by omega
  have E8 : Keep B h0 ((L ++ [some (kT, tomO kR), some (kR, frO vt), rt']) ++ vE kD kv kl cs k v r (fOf cs).e false (vlog kD (aOf cs) cs)) h30 := by
    rw [List.append_assoc]
    exact E7.sM [6, 7, 8, 0, 1, 2, 3] (by decide)
  have hi6 := natI_6 k3
  have ht := tomeB_len k1
  have hb6 := natB_6 (n := (fOf cs).e + 1) (by omega)
  have him : (imgL ((fOf cs).e + 1) (natI nn ++ tomeB zz)).length ≤ 1024 := by
    unfold imgL; rw [List.length_cons, List.length_append, List.length_append]; omega
  refine vsettle_wp (sz := wholeL (bl (textD (aOf cs) cs))) (torn := tornOf (bl (textD (aOf cs) cs))) E8 R hk ok hl (by rw [ba_size, List.length_append]; omega) (aOf_or cs) he' (fun hL => by rw [bl_ba] at hL; omega) fun _ ok3 kl' h32 E9 => ⟨fun _ => ?_, fun e => absurd rfl e⟩
  rw [bl_ba] at E9 ok3
  refine newview_wp fun V h34 oV E10 => wirenew_wp fun kU aU bU => tknew_wp fun kK aK bK => ?_
  intro k40 a40 b40 h41 e41
  have E11 := E9.append E10
  have E12 := ((E11.new (o := wirO (wz, wz, wz)) aU bU).new (o := tokO tk0) aK bK).made a40 b40 e41
  have E13 : Keep B h0 (L ++ ([some (kT, tomO kR), some (kR, frO vt), rt'] ++ vE kD kv kl' (stl (aOf cs) (fOf cs).e (natI nn ++ tomeB zz) cs) (stl (aOf cs) (fOf cs).e (natI nn ++ tomeB zz) cs).length (.slice none 0 0) none ((fOf cs).e + 1) true (walO kD (1 - aOf cs) ((imgL ((fOf cs).e + 1) (natI nn ++ tomeB zz)).length + 6) false) ++ V.e vz ++ [some (kU, wirO (wz, wz, wz)), some (kK, tokO tk0), some (k40, .vec TY.world_World (plains [.pointer (some ⟨V.kV, 0, none⟩), .pointer (some ⟨kU, 0, none⟩), .pointer (some ⟨kK, 0, none⟩), .pointer (some ⟨kD, 0, none⟩), .pointer (some ⟨kv, 0, none⟩), .int .i64 0, .int .i64 0, .int .i64 0, .int .i64 0, .slice none 0 0, .int .i64 nn, .int .i64 0]) 12), none])) h41 := by
    have := E12.gap
    simp only [List.append_assoc, List.cons_append, List.nil_append] at this ⊢
    exact this
  refine ⟨_, E13.cM 16 rfl (i := 0) rfl, _, rfl, _, storeH_vec (E13.gM 7 rfl) rfl, ?_⟩
  have E14 := E13.pM (o' := viewO { V with kT := kT, kR := kR, vt := vt, rt := rt' } 0) 7 rfl
  have E15 := E14.sM [7, 8, 0, 1, 2, 12, 13, 16, 14, 15, 17, 3, 4, 5, 6] (by decide)
  refine Fin.of (hS zz nn ho he' ⟨{ V with kT := kT, kR := kR, vt := vt, rt := rt' }, k40, kU, kK, .slice none 0 0, none, kD, .slice none 0 0, none, kv, kl'⟩ _ rfl ⟨⟨Rt', oV.c8, k1, oV.k⟩, Row.nil _ _, CRow.done _, Nat.le_refl _, ok3, ?_⟩ E15)
  have := aOf_or cs
  show 1 - aOf cs = 0 ∨ 1 - aOf cs = 1
  omega
end
end Go.Proofs.YtlehephbflgblaaGreat.H
namespace Go.Proofs.YtlehephbflgblaaGreat.H
open Go
set_option linter.unusedVariables false
set_option maxRecDepth 100000
def OpenC (x : Int × Int) : List Value := [.int .i64 x.1, .int .i64 x.2]
section
variable {B : RO} {h0 h h' : Heap} {L : List (Option (Nat × AObj))} {r : Option (Nat × AObj)} {a : Option Addr} {m c k : Nat} {l : List (Int × Int)}
end
end Go.Proofs.YtlehephbflgblaaGreat.H
namespace Go.Proofs.YtlehephbflgblaaGreat.H
open Go Go.RowKit
set_option linter.unusedVariables false
set_option maxRecDepth 100000
def imgS (S : WS) : List UInt8 := natI S.n ++ tomeB S.v.f
def settleS (S : WS) : WS := { S with cs := stl S.ar S.e (imgS S) S.cs, k := (stl S.ar S.e (imgS S) S.cs).length, e := S.e + 1, ar := 1 - S.ar, sz := (imgL (S.e + 1) (imgS S)).length + 6, im := imgS S, ls := [] }
def appS (S : WS) (l : List UInt8) : WS := { S with cs := S.cs ++ [Chg.mk S.ar false (ba (closeL (1 :: l)))], sz := S.sz + (closeL (1 :: l)).length, ls := S.ls ++ [l] }
def forceS (S : WS) : WS := { S with k := S.cs.length }
def writeS (S : WS) (xs : DFL) : WS × Int :=
  if S.f > 0 then ({ S with f := S.f - 1 }, 7)
  else if S.n ≥ 1099511627776 then (S, 6)
  else if (S.sz : Int) > 2048 then (if 1099511627776 ≤ S.e then (S, 6) else (appS (settleS S) (loadB (S.n + 1) xs), 0))
  else (appS S (loadB (S.n + 1) xs), 0)
structure VLT (S : WS) : Prop where
  tx : bl (textD S.ar S.cs) = rowL (imgL S.e S.im :: S.ls.map (1 :: ·))
  ot : bl (textD (1 - S.ar) S.cs) = []
  sz : S.sz = (bl (textD S.ar S.cs)).length
  il : (imgL S.e S.im).length ≤ 1024
  ll : ∀ l ∈ S.ls, l.length + 1 ≤ 1024
  sm : S.sz ≤ 2340
  e1 : 1 ≤ S.e
  e2 : S.e ≤ 1099511627776
  n0 : 0 ≤ S.n
  ar : S.ar = 0 ∨ S.ar = 1
theorem chB_35 {x : ChR} (g : GoodC x) : (chB x).length ≤ 35 := by
  obtain ⟨g1, g2, g3⟩ := g
  have e1 : (natI x.1).length ≤ 1 := by
    unfold natI; split
    · simp
    · rw [natB_1b (by omega)]; exact Nat.le_refl _
  have hs : x.2.2.size ≤ 32 := by
    unfold goodF at g3
    simp only [Bool.and_eq_true, decide_eq_true_eq] at g3
    exact g3.1
  unfold chB
  rw [List.length_append]
  split
  · rw [List.length_cons, List.length_append, natB_1b (by omega), bl_length]; omega
  · simp; omega
theorem loadB_216 {n : Int} {xs : DFL} (hn : n ≤ 1099511627776) (s : SortD xs) (g : ∀ x ∈ xs, GoodC x) : (loadB n xs).length ≤ 216 := by
  have h6 := sortGood_len xs s g
  have h2 : ∀ xs : DFL, (∀ x ∈ xs, GoodC x) → (xs.flatMap chB).length ≤ 35 * xs.length := by
    intro xs
    induction xs with
    | nil => intro _; simp
    | cons x xs ih =>
      intro h
      have := ih fun y hy => h y (by simp [hy])
      have := chB_35 (h x (by simp))
      rw [List.flatMap_cons, List.length_append, List.length_cons]; omega
  have := h2 xs g
  have := natI_6 hn
  unfold loadB; rw [List.length_append]; omega
theorem imgS_len {S : WS} (hn : S.n ≤ 1099511627776) (k : TomeOk S.v.f) (he : S.e < 1099511627776) : (imgL (S.e + 1) (imgS S)).length ≤ 217 := by
  have h1 := natI_6 hn
  have h2 := tomeB_len k
  have h3 := natB_6 (n := S.e + 1) (by omega)
  unfold imgL imgS; rw [List.length_cons, List.length_append, List.length_append]; omega
theorem VLT.settle {S : WS} (T : VLT S) (hn : S.n ≤ 1099511627776) (k : TomeOk S.v.f) (he : S.e < 1099511627776) : VLT (settleS S) ∧ (settleS S).sz ≤ 223 := by
  have hl := imgS_len hn k he
  have hs : (settleS S).sz ≤ 223 := by show _ + 6 ≤ 223; omega
  have e1 : bl (textD (1 - S.ar) (stl S.ar S.e (imgS S) S.cs)) = closeL (imgL (S.e + 1) (imgS S)) := by rw [stl_new T.ar, bl_ba]
  have har := T.ar
  refine ⟨⟨?_, ?_, ?_, by show (imgL (S.e + 1) (imgS S)).length ≤ 1024; omega, fun l hl => (by cases hl), by omega, by show 1 ≤ S.e + 1; omega, by show S.e + 1 ≤ _; omega, T.n0, by show 1 - S.ar = 0 ∨ 1 - S.ar = 1; omega⟩, hs⟩
  · show bl (textD (1 - S.ar) (stl S.ar S.e (imgS S) S.cs)) = rowL [imgL (S.e + 1) (imgS S)]
    rw [e1, rowL_one]
  · show bl (textD (1 - (1 - S.ar)) (stl S.ar S.e (imgS S) S.cs)) = []
    rw [show 1 - (1 - S.ar) = S.ar by omega, stl_old]; rfl
  · show _ + 6 = (bl (textD (1 - S.ar) (stl S.ar S.e (imgS S) S.cs))).length
    rw [e1, closeL_len (by omega)]
theorem VLT.app {S : WS} (T : VLT S) {l : List UInt8} (hl : l.length ≤ 216) (hs : S.sz ≤ 2048) : VLT (appS S l) := by
  have hc := closeL_len (l := 1 :: l) (by rw [List.length_cons]; omega)
  rw [List.length_cons] at hc
  have e1 : bl (textD S.ar (S.cs ++ [Chg.mk S.ar false (ba (closeL (1 :: l)))])) = bl (textD S.ar S.cs) ++ closeL (1 :: l) := by rw [tD_app, bl_append, bl_ba]
  have hsz := T.sz
  have har := T.ar
  refine ⟨?_, ?_, ?_, T.il, fun x hx => ?_, by show S.sz + (closeL (1 :: l)).length ≤ 2340; omega, T.e1, T.e2, T.n0, T.ar⟩
  · show bl (textD S.ar (S.cs ++ [Chg.mk S.ar false (ba (closeL (1 :: l)))])) = rowL (imgL S.e S.im :: (S.ls ++ [l]).map (1 :: ·))
    rw [e1, T.tx, List.map_append, ← List.cons_append, rowL_append]
    congr 1
    exact (rowL_one _).symm
  · show bl (textD (1 - S.ar) (S.cs ++ [Chg.mk S.ar false (ba (closeL (1 :: l)))])) = []
    rw [tD_other _ _ (by show S.ar ≠ 1 - S.ar; omega)]; exact T.ot
  · show S.sz + (closeL (1 :: l)).length = (bl (textD S.ar (S.cs ++ [Chg.mk S.ar false (ba (closeL (1 :: l)))]))).length
    rw [e1, List.length_append]; omega
  · rcases List.mem_append.1 hx with hx | hx
    · exact T.ll x hx
    · simp only [List.mem_singleton] at hx; subst hx; omega
theorem VLT.f {S : WS} (T : VLT S) (x : Int) : VLT { S with f := x } := ⟨T.tx, T.ot, T.sz, T.il, T.ll, T.sm, T.e1, T.e2, T.n0, T.ar⟩
theorem VLT.write {S : WS} (T : VLT S) (k : TomeOk S.v.f) {xs : DFL} (s : SortD xs) (g : ∀ x ∈ xs, GoodC x) : VLT (writeS S xs).1 := by
  unfold writeS
  split
  · exact T.f _
  split
  · exact T
  rename_i hn
  have hl := loadB_216 (n := S.n + 1) (by omega) s g
  split
  · split
    · exact T
    · obtain ⟨T1, h1⟩ := T.settle (by omega) k (by omega)
      exact T1.app hl (by omega)
  · exact T.app hl (by omega)
theorem write_keeps (S : WS) (xs : DFL) : (writeS S xs).1.v = S.v ∧ (writeS S xs).1.w = S.w ∧ (writeS S xs).1.tk = S.tk ∧ (writeS S xs).1.tl = S.tl ∧ (writeS S xs).1.nt = S.nt ∧ (writeS S xs).1.n = S.n ∧ (writeS S xs).1.cs.length ≤ S.cs.length + 4 := by
  have e1 : ∀ (S : WS) l, (appS S l).cs.length = S.cs.length + 1 := fun S l => by unfold appS; simp
  have e2 : (settleS S).cs.length = S.cs.length + 3 := by unfold settleS stl; simp
  unfold writeS
  split
  · exact ⟨rfl, rfl, rfl, rfl, rfl, rfl, by simp⟩
  split
  · exact ⟨rfl, rfl, rfl, rfl, rfl, rfl, by simp⟩
  split
  · split
    · exact ⟨rfl, rfl, rfl, rfl, rfl, rfl, by simp⟩
    · exact ⟨rfl, rfl, rfl, rfl, rfl, rfl, by simp only; rw [e1, e2]; omega⟩
  · exact ⟨rfl, rfl, rfl, rfl, rfl, rfl, by simp only; rw [e1]; omega⟩
def addS (t : Tal) (os : List (Int × Int)) : Tal := os.foldl talAdd t
def outW (w : WR) (o : Int × Int) : WR := setW w o.1 { wayAt w o.1 with q := (wayAt w o.1).q ++ ba [UInt8.ofNat o.2.toNat] }
theorem addS_take {t : Tal} {os : List (Int × Int)} {j : Nat} {o : Int × Int} (h : os[j]? = some o) : addS t (os.take (j + 1)) = talAdd (addS t (os.take j)) o := by
  obtain ⟨h1, rfl⟩ := List.getElem?_eq_some_iff.1 h
  rw [List.take_succ_eq_append_getElem h1, addS, List.foldl_append]; rfl
theorem wayAt_set {w : WR} {i j : Int} {x : Way} : wayAt (setW w i x) j = if j = i ∧ 0 ≤ i ∧ i < 3 then x else wayAt w j := by
  by_cases hc : j = i ∧ 0 ≤ i ∧ i < 3
  · rw [if_pos hc]
    obtain ⟨rfl, h1, h2⟩ := hc
    rcases (by omega : j = 0 ∨ j = 1 ∨ j = 2) with rfl | rfl | rfl <;> rfl
  · rw [if_neg hc]
    unfold setW
    by_cases h0 : i = 0
    · have hj : j ≠ 0 := by omega
      rw [if_pos h0]; unfold wayAt; simp [hj]
    rw [if_neg h0]
    by_cases h1 : i = 1
    · have hj : j ≠ 1 := by omega
      rw [if_pos h1]; unfold wayAt; simp [hj]
    rw [if_neg h1]
    by_cases h2 : i = 2
    · have hj : j ≠ 2 := by omega
      rw [if_pos h2]; unfold wayAt; simp [hj]
    · rw [if_neg h2]
def WLe (w : WR) (n : Nat) : Prop := ∀ i, (wayAt w i).q.size ≤ n ∧ (wayAt w i).s.size ≤ n ∧ (wayAt w i).t.size ≤ n
theorem WLe.ok {w : WR} {n : Nat} (h : WLe w n) (hn : n ≤ 1000000000000) : WOk w := fun i => by
  obtain ⟨a, b, c⟩ := h i
  exact ⟨by omega, by omega, by omega⟩
theorem WLe.zero : WLe (wz, wz, wz) 0 := fun i => by
  have : wayAt (wz, wz, wz) i = wz := by unfold wayAt; (repeat' split) <;> rfl
  rw [this]; exact ⟨Nat.le_refl _, Nat.le_refl _, Nat.le_refl _⟩
theorem WLe.out {w : WR} {n : Nat} (h : WLe w n) (o : Int × Int) : WLe (outW w o) (n + 1) := fun i => by
  unfold outW
  rw [wayAt_set]
  obtain ⟨a, b, c⟩ := h i
  split
  · rename_i e
    rw [← e.1]
    refine ⟨?_, by show (wayAt w i).s.size ≤ _; omega, by show (wayAt w i).t.size ≤ _; omega⟩
    show ((wayAt w i).q ++ ba [_]).size ≤ n + 1
    rw [ByteArray.size_append, ba_size]; simp; omega
  · exact ⟨by omega, by omega, by omega⟩
section
variable {B : RO} {h0 h h' : Heap} {L M : List (Option (Nat × AObj))} {I : WI} {S : WS} {i j : Int} {q kd k : Nat} {xs : DFL} {v : Value} {r : Option (Nat × AObj)} {os : List (Int × Int)} {a : Option Addr} {c : Nat}
theorem WI.split (E : Keep B h0 (L ++ I.e S) h) : Keep B h0 ((L ++ I.h S) ++ vE I.kD I.kv I.kl S.cs S.k I.vd I.rd S.e true (walO I.kD S.ar S.sz false)) h := by rw [List.append_assoc]; exact E
theorem wforce_wp {Q : Heap → Prop} (E : Keep B h0 (L ++ I.e S) h) (K : WK I S) (hl : S.cs.length ≤ 100000) (hQ : ∀ h', WK { I with vd := .slice none 0 0, rd := none } (forceS S) → Keep B h0 (L ++ WI.e { I with vd := .slice none 0 0, rd := none } (forceS S)) h' → Q h') : C_world_World_Force B (some ⟨I.kW, 0, none⟩) h Q := by
  refine C_world_World_Force.of ?_
  unfold S_world_World_Force
  refine ⟨fun e => (by cases e), fun _ => ⟨_, rfl, _, E.cM 7 rfl (i := 4) rfl, vforce_wp (WI.split E) K.cr K.hk K.ok hl fun h6 E1 => Fin.of (hQ _ ⟨K.o, K.nr, CRow.done _, Nat.le_refl _, K.ok, K.ar⟩ ?_)⟩⟩
  rw [List.append_assoc] at E1; exact E1
theorem wwrite_J1 {Q : Int → Heap → Prop} (E : Keep B h0 (L ++ I.e S) h) (K : WK I S) (T : VLT S) (hn : S.n < 1099511627776) (hs : S.sz ≤ 2048) (hl : S.cs.length ≤ 9990) (A : DAt_file_File L q kd v r) (R : DRow_file_File r v xs) (s : SortD xs) (g : ∀ x ∈ xs, GoodC x)
    (hQ : ∀ vd' rd' h', WK { I with vd := vd', rd := rd' } (appS S (loadB (S.n + 1) xs)) → Keep B h0 (L ++ WI.e { I with vd := vd', rd := rd' } (appS S (loadB (S.n + 1) xs))) h' → Q 0 h') : S_world_World_Write_J1 B (some ⟨I.kW, 0, none⟩) (some ⟨kd, 0, none⟩) h Q := by
  unfold S_world_World_Write_J1
  have n0 := T.n0
  have hw : IntKind.wrap .i64 (S.n + 1) = S.n + 1 := w64 (by omega) (by omega)
  refine ⟨_, rfl, _, E.cM 7 rfl (i := 4) rfl, _, rfl, S.n, E.cM 7 rfl (i := 10) rfl, ?_⟩
  rw [hw]
  have h6 := sortGood_len xs s g
  have hb := loadB_216 (n := S.n + 1) (by omega) s g
  refine redo_bytes_wp (i := q) E ⟨up_app _ A.p, up_app _ A.q⟩ R g (by omega) (by omega) fun h35 E1 => ⟨E1.cM 7 rfl (i := 4) rfl, E1.cM 7 rfl (i := 10) rfl, ?_⟩
  have hc := closeL_len (l := 1 :: loadB (S.n + 1) xs) (by rw [List.length_cons]; omega)
  rw [List.length_cons] at hc
  have hsz := T.sz
  rw [bl_length] at hsz
  refine vappend_wp (WI.split E1) K.cr K.hk K.ok (by omega) (by rw [ba_size]; omega) (by omega) K.ar (fun hL => by rw [ba_size] at hL; omega) (fun _ hF => by rw [bl_ba, hc] at hF; omega) fun _ _ v' r' h39 R' E2 => ?_
  rw [bl_ba] at R' E2
  have E3 : Keep B h0 (L ++ WI.e { I with vd := v', rd := r' } (appS S (loadB (S.n + 1) xs))) h39 := by rw [List.append_assoc] at E2; exact E2
  have k1 : WK { I with vd := v', rd := r' } (appS S (loadB (S.n + 1) xs)) := ⟨K.o, K.nr, R', by show S.k ≤ (S.cs ++ [_]).length; have := K.hk; simp; omega, K.ok.snoc K.ar (by show (textD S.ar _).size ≤ _; rw [tD_app, ByteArray.size_append, ba_size, hc]; omega), K.ar⟩
  exact ⟨E3.cM 7 rfl (i := 4) rfl, E3.cM 7 rfl (i := 10) rfl, Fin.of (hQ _ _ _ k1 E3)⟩
theorem wwrite_wp {Q : Int → Heap → Prop} (E : Keep B h0 (L ++ I.e S) h) (K : WK I S) (T : VLT S) (hl : S.cs.length ≤ 9980) (hf : S.f ≤ 9223372036854775807) (A : DAt_file_File L q kd v r) (R : DRow_file_File r v xs) (s : SortD xs) (g : ∀ x ∈ xs, GoodC x)
    (hQ : ∀ vd' rd' kl' h', WK { I with vd := vd', rd := rd', kl := kl' } (writeS S xs).1 → Keep B h0 (L ++ WI.e { I with vd := vd', rd := rd', kl := kl' } (writeS S xs).1) h' → Q (writeS S xs).2 h') : C_world_World_Write B (some ⟨I.kW, 0, none⟩) (some ⟨kd, 0, none⟩) h Q := by
  refine C_world_World_Write.of ?_
  unfold S_world_World_Write
  unfold writeS at hQ
  refine ⟨fun e => (by cases e), fun _ => ⟨_, rfl, S.f, E.cM 7 rfl (i := 11) rfl, fun h1 => ?_, fun h1 => ⟨_, rfl, S.n, E.cM 7 rfl (i := 10) rfl, fun h2 => ?_, fun h2 => ⟨_, rfl, _, E.cM 7 rfl (i := 4) rfl, ?_⟩⟩⟩⟩
  · have hw : IntKind.wrap .i64 (S.f - 1) = S.f - 1 := w64 (by omega) (by omega)
    refine ⟨_, rfl, S.f, E.cM 7 rfl (i := 11) rfl, _, rfl, _, storeH_vec (E.gM 7 rfl) rfl, ?_⟩
    rw [hw]
    rw [if_pos h1] at hQ
    exact Fin.of (hQ I.vd I.rd I.kl _ ⟨K.o, K.nr, K.cr, K.hk, K.ok, K.ar⟩ (E.pM (o' := wldO I { S with f := S.f - 1 }) 7 rfl))
  · rw [if_neg h1, if_pos h2] at hQ
    exact Fin.of (hQ I.vd I.rd I.kl _ K E)
  rw [if_neg h1, if_neg h2] at hQ
  have n0 := T.n0
  refine vsize_wp (i := L.length + 13) (j := L.length + 14) E (upM 13 rfl) (upM 14 rfl) ⟨fun h3 => ?_, fun h3 => Fin.of ?_⟩
  · rw [if_pos h3] at hQ
    refine ⟨_, rfl, _, E.cM 7 rfl (i := 4) rfl, _, rfl, S.n, E.cM 7 rfl (i := 10) rfl, _, rfl, _, E.cM 7 rfl (i := 0) rfl, _, rfl, _, E.cM 0 rfl (i := 1) rfl, ?_⟩
    refine image21_wp (i := L.length + 2) E ⟨upM 2 rfl, ⟨upM 3 rfl, upM 4 rfl⟩⟩ K.o.r K.o.f (by omega) fun h75 E1 => ⟨E1.cM 7 rfl (i := 4) rfl, E1.cM 7 rfl (i := 10) rfl, E1.cM 7 rfl (i := 0) rfl, E1.cM 0 rfl (i := 1) rfl, ?_⟩
    by_cases he : 1099511627776 ≤ S.e
    · rw [if_pos he] at hQ
      refine vsettle_full (E1.gM 13 rfl) he ⟨E1.cM 7 rfl (i := 4) rfl, E1.cM 7 rfl (i := 10) rfl, E1.cM 7 rfl (i := 0) rfl, E1.cM 0 rfl (i := 1) rfl, fun e => absurd e (by decide), fun _ => Fin.of (hQ I.vd I.rd I.kl _ K E1)⟩
    rw [if_neg he] at hQ
    have him := imgS_len (S := S) (by omega) K.o.f (by omega)
    have i6 := natI_6 (n := S.n) (by omega)
    have t2 := tomeB_len K.o.f
    refine vsettle_wp (WI.split E1) K.cr K.hk K.ok (by omega) (by rw [ba_size, List.length_append]; omega) K.ar (by omega) (fun hL => by rw [bl_ba] at hL; unfold imgS at him; omega) fun _ ok3 kl' h81 E2 => ?_
    rw [bl_ba] at E2 ok3
    have E3 : Keep B h0 (L ++ WI.e { I with vd := .slice none 0 0, rd := none, kl := kl' } (settleS S)) h81 := by rw [List.append_assoc] at E2; exact E2
    obtain ⟨T1, hs1⟩ := T.settle (by omega) K.o.f (by omega)
    have K1 : WK { I with vd := .slice none 0 0, rd := none, kl := kl' } (settleS S) := ⟨K.o, K.nr, CRow.done _, Nat.le_refl _, ok3, T1.ar⟩
    refine ⟨E3.cM 7 rfl (i := 4) rfl, E3.cM 7 rfl (i := 10) rfl, E3.cM 7 rfl (i := 0) rfl, E3.cM 0 rfl (i := 1) rfl, fun _ => Fin.of ?_, fun e => absurd rfl e⟩
    exact wwrite_J1 (I := { I with vd := .slice none 0 0, rd := none, kl := kl' }) (S := settleS S) E3 K1 T1 (by show S.n < _; omega) (by omega) (by show (stl S.ar S.e (imgS S) S.cs).length ≤ 9990; unfold stl; simp; omega) A R s g fun vd' rd' h' K2 E4 => hQ vd' rd' kl' h' K2 E4
  · rw [if_neg h3] at hQ
    exact wwrite_J1 E K T (by omega) (by omega) (by omega) A R s g fun vd' rd' h' K2 E4 => hQ vd' rd' I.kl h' K2 E4
end
end Go.Proofs.YtlehephbflgblaaGreat.H
namespace Go.Proofs.YtlehephbflgblaaGreat.H
open Go Go.RowKit
set_option linter.unusedVariables false
set_option maxRecDepth 100000
theorem talAdd_out {t : Tal} {o : Int × Int} (h : ¬ (0 ≤ o.1 ∧ o.1 < 4)) : talAdd t o = t := by
  unfold talAdd talSet
  rw [if_neg (by omega), if_neg (by omega), if_neg (by omega), if_neg (by omega)]
section
variable {B : RO} {h0 h h' : Heap} {L M : List (Option (Nat × AObj))} {I : WI} {S : WS} {i j t : Int} {k : Nat} {v : Value} {r : Option (Nat × AObj)} {os : List (Int × Int)} {ns : List Int} {a : Option Addr} {c : Nat}
theorem wadd_wp {Q : Heap → Prop} (E : Keep B h0 (L ++ (I.e S ++ M)) h) (hr : ∀ T h', Keep B h0 (L ++ (I.e { S with tl := T } ++ M)) h' → Reads B h' a 2 OpenC os) (hl : os.length ≤ 1000000)
    (hQ : ∀ h', Keep B h0 (L ++ (I.e { S with tl := addS S.tl os } ++ M)) h' → Q h') : C_world_World_Add B (some ⟨I.kW, 0, none⟩) a os.length c h Q := by
  refine C_world_World_Add.of ?_
  unfold S_world_World_Add
  refine ⟨fun e => (by cases e), fun _ => ⟨fun q m h' => ∃ j : Nat, j ≤ os.length ∧ q = j ∧ m = os.length - j ∧ Keep B h0 (L ++ (I.e { S with tl := addS S.tl (os.take j) } ++ M)) h', os.length, Fin.of ⟨0, by omega, rfl, rfl, E⟩, ?_⟩⟩
  clear E
  rintro _ _ h7 ⟨j, hj, rfl, rfl, E1⟩
  refine ⟨fun hlt => ?_, fun hge => Fin.of ?_⟩
  · have hj' : j < os.length := by omega
    have hx := List.getElem?_eq_getElem hj'
    generalize os[j] = o at hx
    obtain ⟨A, f1, _, f3⟩ := hr _ h7 E1 j o hx
    refine ⟨A, f1, by omega, by omega, o.1, o.2, by rw [Int.toNat_natCast]; exact f3, fun k16 a16 b16 h17 e17 => ?_⟩
    have E2 := E1.made a16 b16 e17
    refine ⟨_, stores_whole E2.last rfl (by simp) (by simp [isOne]) (by simp), ?_⟩
    have E3 := E2.putLast (.vec TY.acts_Open (plains [.int .i64 o.1, .int .i64 o.2]) 2)
    have g3 := E3.last
    have E4 := E3.pop
    have ht := addS_take (t := S.tl) hx
    generalize Heap.set h17 k16 _ = hh at g3 E3 E4 ⊢
    generalize addS S.tl (os.take j) = T at *
    have go : ∀ {h1 : Heap}, Keep B h0 (L ++ (I.e { S with tl := talAdd T o } ++ M)) h1 → Fin B h1 (fun h' => ∃ m', m' < os.length - j ∧ ∃ j' : Nat, j' ≤ os.length ∧ IntKind.wrap .i64 ((j : Int) + 1) = j' ∧ m' = os.length - j' ∧ Keep B h0 (L ++ (I.e { S with tl := addS S.tl (os.take j') } ++ M)) h') := fun E5 => Fin.of ⟨os.length - (j + 1), by omega, j + 1, by omega, wrapS (by omega), rfl, by rw [ht]; exact E5⟩
    have jf : ¬ (0 ≤ o.1 ∧ o.1 < 4) → ∀ {m8 : Nat} {i6 : Int} {J : Int → Nat → Heap → Prop}, (Fin B hh (fun h' => ∃ m', m' < m8 ∧ J (IntKind.wrap .i64 (i6 + 1)) m' h')) → S_world_World_Add_J1 B (some ⟨I.kW, 0, none⟩) a os.length c i6 m8 J k16 false hh Q := fun hn m8 i6 J hf => by
      unfold S_world_World_Add_J1
      exact ⟨fun e => (by cases e), fun _ => hf⟩
    have no : ¬ (0 ≤ o.1 ∧ o.1 < 4) → Keep B h0 (L ++ (I.e { S with tl := talAdd T o } ++ M)) hh := fun hn => by rw [talAdd_out hn]; exact E4
    refine ⟨o.1, cellH_vec g3 rfl, fun h1 => ⟨o.1, cellH_vec g3 rfl, fun h2 => Fin.of ?_, fun h2 => Fin.of (jf (by omega) (go (no (by omega))))⟩, fun h1 => Fin.of (jf (by omega) (go (no (by omega))))⟩
    unfold S_world_World_Add_J1
    have gW := E4.gM (k := I.kW) (o := wldO I { S with tl := T }) 7 rfl
    have hc : o.1 = 0 ∨ o.1 = 1 ∨ o.1 = 2 ∨ o.1 = 3 := by omega
    have c5 : cellH B hh (Addr.add (Addr.add ⟨I.kW, 0, none⟩ 5) (o.1.toNat * 1)) = some (.int .i64 (talAt T o.1)) := by rcases hc with e | e | e | e <;> rw [e] <;> exact cellH_vec gW rfl
    have s5 : ∀ x : Int, storeH hh (Addr.add (Addr.add ⟨I.kW, 0, none⟩ 5) (o.1.toNat * 1)) (.int .i64 x) = some (Heap.set hh I.kW (wldO I { S with tl := talSet T o.1 x })) := fun x => by rcases hc with e | e | e | e <;> rw [e] <;> exact storeH_vec gW rfl
    exact ⟨fun _ => ⟨o.1, cellH_vec g3 rfl, _, rfl, by omega, by omega, _, c5, o.2, cellH_vec g3 rfl, _, rfl, by omega, by omega, _, s5 _, go (E4.pM (o' := wldO I { S with tl := talAdd T o }) 7 rfl)⟩, fun e => by cases e⟩
  · have : j = os.length := by omega
    subst this
    rw [List.take_length] at E1
    exact hQ _ E1
end
end Go.Proofs.YtlehephbflgblaaGreat.H
namespace Go.Proofs.YtlehephbflgblaaGreat.H
open Go Go.RowKit
set_option linter.unusedVariables false
set_option maxRecDepth 100000
theorem eqL_file' (b : Bool) (s : ByteArray) : eqL [Value.bool b, Value.string s] [Value.bool b, Value.string s] = true := by
  have e : (s == s) = true := by cases s with | mk d => exact beq_self_eq_true d
  simp [eqL, leafEq, e]
section
variable {B : RO} {h0 h h' : Heap} {L : List (Option (Nat × AObj))} {r : Option (Nat × AObj)} {i k kT kR : Nat} {a a1 : Option Addr} {m c c1 : Nat} {v : Value} {xs list : DFL} {l z : FL} {s : ByteArray}
theorem Keep.fileSet {z : FL} (E : Keep B h0 L h) (i : Nat) {k nn : Nat} {t : TypeId} {zs : List Value} (hi : L[i]? = some (some (k, .vec t (plains (filesC z ++ zs)) nn))) (q : Nat) (hq : q < z.length) (hn : z.length * 2 ≤ nn) (b : Bool) (s : ByteArray) (ver : Int) :
    ∃ h', StoresAt (Addr.add ⟨k, 0, none⟩ (q * 2)) h 0 [.bool b, .string s] h' ∧ Keep B h0 (L.set i (some (k, .vec t (plains (filesC (z.set q ((b, s), ver)) ++ zs)) nn))) h' := by
  have l1 := filesC_len (z.take q)
  rw [List.length_take] at l1
  obtain ⟨h15, s1, -, s3⟩ := StoresAt.over (k := k) (nn := nn) (t := t) [.bool b, .string s] h (q * 2) 0 (filesC (z.take q)) (fileC z[q] ++ filesC (z.drop (q + 1)) ++ zs) (by simp [isOne]) (by
    rw [E.at i hi]
    congr 2
    rw [filesC, flatMap_splitR z q hq]
    simp [filesC, List.append_assoc]) (by omega) (by simp; omega)
  have s4 := s3 (by simp)
  have e4 : filesC (z.take q) ++ [.bool b, .string s] ++ (fileC z[q] ++ filesC (z.drop (q + 1)) ++ zs).drop [Value.bool b, Value.string s].length = filesC (z.set q ((b, s), ver)) ++ zs := by
    rw [filesC_set z q hq, List.append_assoc (fileC z[q])]
    simp only [List.append_assoc]
    rfl
  rw [e4] at s4
  refine ⟨h15, by rw [addr_more, Nat.zero_add]; exact s1, ?_⟩
  rw [s4]
  exact E.put i hi
def afO (n : Nat) (z : FL) : AObj := .vec TY.a_6_countermandref09_File (plains (filesC z ++ [])) n
theorem afO_eq (n : Nat) (z : FL) : afO n z = .vec TY.a_6_countermandref09_File (plains (filesC z)) n := by rw [afO, List.append_nil]
theorem ref18_apply_wp {ver : Int} {Q : List Value → Heap → Prop} (hr : Reads B h a 3 entC_file_File xs) (h6 : z.length = 6) (g : ∀ x ∈ xs, GoodC x) (hl : xs.length ≤ 1000) (hQ : Q (filesC (apCs ver z xs)) h) : C_countermandref18_Apply B (filesC z) a xs.length c h Q := by
  refine C_countermandref18_Apply.of ?_
  unfold S_countermandref18_Apply
  intro k6 a6 b6 h7 e7 k8 a8 b8 h9 e9
  have hzl := filesC_len z
  have E0 : Keep B h [some (k6, afO 12 z), some (k8, afO 12 zF)] h9 := by
    have := ((Keep.nil B h).made a6 b6 e7).made a8 b8 e9
    rw [afO_eq, afO_eq]
    rw [show (filesC z).length = 12 by omega] at this
    exact this
  refine ⟨fun ix m h' => ∃ j : Nat, j ≤ xs.length ∧ ix = j ∧ m = xs.length - j ∧ Keep B h [some (k6, afO 12 (apCs ver z (xs.take j))), some (k8, afO 12 zF)] h', xs.length, Fin.of ⟨0, by omega, rfl, by omega, E0⟩, ?_⟩
  clear E0 e7 e9
  rintro _ _ h11 ⟨j, hj, rfl, rfl, E⟩
  refine ⟨fun hlt => ?_, fun hge => ?_⟩
  · have hj' : j < xs.length := by omega
    have hw : IntKind.wrap .i64 ((j : Int) + 1) = ((j + 1 : Nat) : Int) := by rw [w64 (by omega) (by omega)]; omega
    have hx := List.getElem?_eq_getElem hj'
    have gx := g _ (List.getElem_mem hj')
    generalize xs[j] = x at hx gx
    obtain ⟨g1, g2, g3⟩ := gx
    obtain ⟨A', e1, _, e4⟩ := (hr.over E.le E.nw) j x hx
    refine ⟨A', e1, by omega, hlt, x.1, x.2.1, x.2.2, e4, fun k22 a22 b22 h23 e23 => ?_⟩
    have E1 := E.made a22 b22 e23
    refine ⟨_, stores_whole E1.last rfl (by simp) (by simp [isOne]) (by simp), ?_⟩
    have E2 := E1.putLast (.vec TY.countermandref18_Change (plains (entC_file_File x)) 3)
    refine ⟨x.1, cellH_vec E2.last rfl, x.2.1, x.2.2, ⟨cellH_vec E2.last rfl, cellH_vec E2.last rfl, trivial⟩, by omega, by omega, ?_⟩
    have hal := apCs_len ver (xs.take j) z
    obtain ⟨h28, st, E3⟩ := E2.fileSet 0 (zs := []) rfl x.1.toNat (by omega) (by omega) x.2.1 x.2.2 ver
    refine ⟨h28, st, Fin.of ⟨xs.length - (j + 1), by omega, j + 1, by omega, hw, rfl, ?_⟩⟩
    rw [apCs_take ver z hx]
    exact E3.take 2
  · have : j = xs.length := by omega
    subst this
    rw [List.take_length] at E
    have hfl := filesC_len (apCs ver z xs)
    rw [apCs_len, h6] at hfl
    have g6 := E.at 0 rfl
    rw [afO_eq] at g6
    have g8 := E.at 1 rfl
    rw [afO_eq] at g8
    have E3 := E.put (o' := .vec TY.a_6_countermandref09_File (plains (filesC (apCs ver z xs) ++ [])) 12) 1 rfl
    rw [List.append_nil] at E3
    refine ⟨filesC (apCs ver z xs), hfl, E.cellsP (zs := []) 0 rfl, hfl, _, stores_whole g8 (by rw [hfl]; rfl) (by omega) (filesC_one _) (fun e => by rw [e] at hfl; simp at hfl), filesC (apCs ver z xs), hfl, ?_, Fin.ent E3.back (Fin.of hQ)⟩
    exact E3.cellsP (zs := []) (ys := filesC (apCs ver z xs)) 1 (by rw [List.append_nil]; rfl)
end
end Go.Proofs.YtlehephbflgblaaGreat.H
namespace Go.Proofs.YtlehephbflgblaaGreat.H
open Go Go.RowKit
set_option linter.unusedVariables false
set_option maxRecDepth 100000
theorem toldL_nil : toldL [] = ⟨0, [], []⟩ := by unfold toldL; rw [allL_none openL_nil]; rfl
theorem fOf_mt {cs : List Chg} (h0 : bl (textD 0 cs) = []) (h1 : bl (textD 1 cs) = []) : fOf cs = ⟨0, [], []⟩ ∧ aOf cs = 0 := by unfold fOf foundL aOf areaL; rw [h0, h1, toldL_nil]; simp
theorem openF_mt : openF ⟨0, [], []⟩ = some (zF, 0) := by
  have h : readW (TDL.mk 0 [] []).im = some (zF, 0) := readW_nil
  rw [openF_2 h (by simp [goods])]
  simp [goods, chsOf, apCs, lastOf]
theorem WE0 {B : RO} {h0 h : Heap} {L M : List (Option (Nat × AObj))} (E : Keep B h0 (L ++ M) h) : Keep B h0 (L ++ (M ++ [])) h := by rw [List.append_nil]; exact E
theorem open_vlt {cs : List Chg} {z : FL} {n : Int} (k : TomeOk z) (hn : 0 ≤ n ∧ n ≤ 1099511627776) (he : (fOf cs).e < 1099511627776) : VLT (openS cs z n) := by
  have ha := aOf_or cs
  have hl : (imgL ((fOf cs).e + 1) (natI n ++ tomeB z)).length ≤ 217 := by
    have h1 := natI_6 hn.2
    have h2 := tomeB_len k
    have h3 := natB_6 (n := (fOf cs).e + 1) (by omega)
    unfold imgL; rw [List.length_cons, List.length_append, List.length_append]; omega
  have e1 : bl (textD (1 - aOf cs) (stl (aOf cs) (fOf cs).e (natI n ++ tomeB z) cs)) = closeL (imgL ((fOf cs).e + 1) (natI n ++ tomeB z)) := by rw [stl_new ha, bl_ba]
  refine ⟨?_, ?_, ?_, by show (imgL ((fOf cs).e + 1) (natI n ++ tomeB z)).length ≤ 1024; omega, fun l hl => (by cases hl), by show _ + 6 ≤ 2340; omega, by show 1 ≤ (fOf cs).e + 1; omega, by show (fOf cs).e + 1 ≤ _; omega, hn.1, by show 1 - aOf cs = 0 ∨ 1 - aOf cs = 1; omega⟩
  · show bl (textD (1 - aOf cs) (stl (aOf cs) (fOf cs).e (natI n ++ tomeB z) cs)) = rowL [imgL ((fOf cs).e + 1) (natI n ++ tomeB z)]
    rw [e1, rowL_one]
  · show bl (textD (1 - (1 - aOf cs)) (stl (aOf cs) (fOf cs).e (natI n ++ tomeB z) cs)) = []
    rw [show 1 - (1 - aOf cs) = aOf cs by omega, stl_old]; rfl
  · show _ + 6 = (bl (textD (1 - aOf cs) (stl (aOf cs) (fOf cs).e (natI n ++ tomeB z) cs))).length
    rw [e1, closeL_len (by omega)]
section
variable {B : RO} {h0 h h' : Heap} {L M : List (Option (Nat × AObj))} {I : WI} {S : WS} {i j : Int} {k kD : Nat} {z : FL}
noncomputable def newS : WS := openS [] zF 0
theorem newworld_wp {Q : Option Addr → Int → Heap → Prop} (E : Keep B h0 (L ++ [some (kD, dskO [] 0 (.slice none 0 0)), none]) h) (hQ : ∀ I h', I.kD = kD → WK I newS → Keep B h0 (L ++ I.e newS) h' → Q (some ⟨I.kW, 0, none⟩) 0 h') : C_world_Open B (some ⟨kD, 0, none⟩) h Q := by
  obtain ⟨f1, f2⟩ := fOf_mt (cs := []) rfl rfl
  refine worldopen_wp E (Row.nil _ _) (Nat.le_refl _) DOk.nil (by simp) (by rw [f1]; simp) (fun hn => ?_) (fun z n _ he => ?_) fun z n ho he I h' h1 h2 h3 => ?_
  · rw [f1, openF_mt] at hn; cases hn
  · rw [f1] at he; simp at he
  · rw [f1, openF_mt] at ho
    cases ho
    exact hQ I h' h1 h2 h3
theorem newS_vlt : VLT newS := by
  obtain ⟨f1, f2⟩ := fOf_mt (cs := []) rfl rfl
  exact open_vlt TomeOk.zero ⟨Int.le_refl _, by decide⟩ (by rw [f1]; decide)
theorem newS_e : newS.e = 1 := by
  obtain ⟨f1, f2⟩ := fOf_mt (cs := []) rfl rfl
  show (fOf []).e + 1 = 1
  rw [f1]
theorem alive21_wp {Q : Bool → Heap → Prop} (hQ : ∀ h', Keep B h [] h' → Q true h') : C_countermandlaw21_alive B h Q := by
  refine C_countermandlaw21_alive.of ?_
  unfold S_countermandlaw21_alive
  refine dnew_wp fun kD h2 E => newworld_wp (L := []) E fun I h4 _ K E1 => ⟨fun _ k7 a7 b7 h8 e8 => ?_, fun e => absurd rfl e⟩
  have E2 := E1.nM a7 b7 e8
  refine wadd_wp (L := []) (os := [(1, 5)]) E2 (fun T h' E' j x hx => ?_) (by simp) fun h9 E3 => ?_
  · match j with
    | 0 =>
      cases hx
      have g := E'.gM (k := k7) (o := .vec TY.acts_Open (plains [.int .i64 1, .int .i64 5]) 2) 15 rfl
      exact ⟨_, rfl, fun hn => (by rw [g] at hn; cases hn), cellH_vec g rfl, cellH_vec g rfl, trivial⟩
    | j + 1 => cases hx
  refine wdone_wp E3 fun h10 E4 => wtallies_wp E4 fun h11 E5 => ⟨by omega, by omega, 5, rfl, fun _ => wblocks_wp E5 ⟨fun _ => wview_wp E5 ⟨_, rfl, 0, E5.cM 0 rfl (i := 3) rfl, Fin.of (hQ _ (E5.take 0))⟩, fun e => absurd rfl e⟩, fun e => absurd rfl e⟩
theorem are_wp {Q : Bool → Heap → Prop} (E : Keep B h0 (L ++ (I.e S ++ M)) h) (o : VOk I.V S.v) (h6 : z.length = 6) (hf : filesC S.v.f = filesC z) (hQ : ∀ h', Keep B h0 (L ++ (I.e S ++ M)) h' → Q true h') : C_countermandlaw21_are B (some ⟨I.kW, 0, none⟩) (filesC z) h Q := by
  refine C_countermandlaw21_are.of ?_
  unfold S_countermandlaw21_are
  intro k4 a4 b4 h5 e5
  have E1 := E.made (o := .vec TY.a_6_countermandref09_File (plains (filesC z)) (filesC z).length) a4 b4 e5
  refine ⟨filesC z, by rw [filesC_len]; omega, CellsAt.of_vec _ 0 E1.last fun j y hj => by rw [show 0 + 0 + j = j by omega]; exact plains_get_some hj, fun q m h' => ∃ j : Nat, j ≤ 6 ∧ q = j ∧ m = 6 - j ∧ Keep B h0 (L ++ (I.e S ++ M)) h', 6, Fin.of ⟨0, by omega, rfl, rfl, E1.pop⟩, ?_⟩
  clear E1 e5
  rintro _ _ h8 ⟨j, hj, rfl, rfl, E2⟩
  refine ⟨fun hlt => ?_, fun hge => Fin.of (hQ _ E2)⟩
  have hs6 := o.f.n6
  have hx := List.getElem?_eq_getElem (show j < z.length by omega)
  have hy := List.getElem?_eq_getElem (show j < S.v.f.length by omega)
  have hfa := fileAt_in (l := S.v.f) (i := (j : Nat)) (by omega) (by rw [Int.toNat_natCast]; omega)
  simp only [Int.toNat_natCast] at hfa
  generalize z[j] = x at hx
  generalize S.v.f[j] = y at hy hfa
  have hxy : y.1 = x.1 := by
    obtain ⟨g1, g2⟩ := filesC_get z j x hx
    obtain ⟨g3, g4⟩ := filesC_get S.v.f j y hy
    rw [hf] at g3 g4
    rw [g1] at g3
    rw [g2] at g4
    have e1 : x.1.1 = y.1.1 := by simpa using g3
    have e2 : x.1.2 = y.1.2 := by simpa using g4
    exact Prod.ext e1.symm e2.symm
  refine ⟨by omega, by omega, x.1.1, x.1.2, by rw [Int.toNat_natCast]; exact extract_files z j x hx, fun k15 a15 b15 h16 e16 => ?_⟩
  have E3 := E2.made a15 b15 e16
  refine ⟨_, stores_whole E3.last rfl (by simp) (by simp [isOne]) (by simp), ?_⟩
  have E4 := E3.putLast (.vec TY.countermandref09_File (plains [.bool x.1.1, .string x.1.2]) 2)
  rw [List.append_assoc, List.append_assoc] at E4
  refine wview_wp E4 ⟨_, rfl, _, E4.cM 0 rfl (i := 1) rfl, tget_wp (i := L.length + 2) E4 ⟨upM 2 rfl, ⟨upM 3 rfl, upM 4 rfl⟩⟩ o.r fun h23 E5 k27 a27 b27 h28 e28 => ?_⟩
  rw [← List.append_assoc, ← List.append_assoc, List.append_assoc L] at E5
  rw [hfa, hxy]
  have E6 := E5.made a27 b27 e28
  refine ⟨_, stores_whole E6.last rfl (by simp) (by simp [isOne]) (by simp), ?_⟩
  have E7 := E6.putLast (.vec TY.file_File (plains [.bool x.1.1, .string x.1.2]) 2)
  have g27 := E7.last
  have g15 := E7.at (k := k15) (o := .vec TY.countermandref09_File (plains [.bool x.1.1, .string x.1.2]) 2) (L ++ (I.e S ++ M)).length (up_app _ (by simp))
  exact ⟨_, _, ⟨cellH_vec g27 rfl, cellH_vec g27 rfl, trivial⟩, _, _, ⟨cellH_vec g15 rfl, cellH_vec g15 rfl, trivial⟩, fun _ => Fin.of ⟨6 - (j + 1), by omega, j + 1, by omega, wrapS (by omega), rfl, E7.pop.pop⟩, fun e => absurd (eqL_file' _ _) e⟩
end
end Go.Proofs.YtlehephbflgblaaGreat.H
namespace Go.Proofs.YtlehephbflgblaaGreat.H
open Go Go.RowKit
set_option linter.unusedVariables false
set_option maxRecDepth 100000
theorem told_rows {n : Nat} {im : List UInt8} {ls : List (List UInt8)} (h0 : n ≠ 0) (h : n ≤ 1099511627776) (hi : (imgL n im).length ≤ 1024) (hl : ∀ l ∈ ls, l.length + 1 ≤ 1024) : toldL (rowL (imgL n im :: ls.map (1 :: ·))) = ⟨n, im, ls⟩ := by
  have hs : Short (imgL n im :: ls.map (1 :: ·)) := fun l hx => by
    rcases List.mem_cons.1 hx with rfl | hx
    · exact hi
    · obtain ⟨y, hy, rfl⟩ := List.mem_map.1 hx
      have := hl y hy
      simp; omega
  unfold toldL
  rw [allL_rows hs, toldR_some (firstL_img h0 h im), loadsL_ones]
theorem crash_all (cs : List Chg) (a b : Int) : crashD cs cs.length a b = cs := by
  unfold crashD; simp
section
variable {B : RO} {h0 h h' : Heap} {Q : Bool → Heap → Prop} {s s1 s2 : ByteArray}
end
end Go.Proofs.YtlehephbflgblaaGreat.H

/- What the law's proof stands on, part 3. No condition. -/
import Derived.IntWalk
import Derived.Laws.BitsLemmas
import Derived.Test.YtcncdfmnpmmikaaG2
namespace Go.Proofs.Ytcncdfmnpmmikaa.H
open Go
set_option linter.unusedVariables false
set_option maxRecDepth 100000
set_option maxHeartbeats 4000000
theorem C_countermandlaw14_SheetDoes.of {B : RO} {l1 : List Value} {a2 : Option Addr} {n3 : Nat} {c4 : Nat} {h : Heap} {Q : Bool → Heap → Prop} (s : S_countermandlaw14_SheetDoes B l1 a2 n3 c4 h Q) : C_countermandlaw14_SheetDoes B l1 a2 n3 c4 h Q := by
 refine zspec Try.func13 [ResultVar.cell 4 4] rfl rfl rfl rfl rfl ?_
 refine au 2 rfl ?_
 refine zg rfl (sem_boxNN l1 rfl (fun k6 hb1 hb2 h7 hb3 => ?_))
 have s := s k6 hb1 hb2 h7 hb3
 refine zal s rfl TF.zero_4 rfl fun k8 h9 s => ?_
 refine au 4 rfl ?_
 refine zcall s rfl rfl TF.goes_42 ?_
 rintro _ h10 ⟨b11, rfl, s⟩
 cases b11
 ·replace s := s.2 rfl
  refine au 5 rfl ?_
  refine zs1 s rfl rfl rfl rfl TF.sz_4 fun h12 s => ?_
  refine au 1 rfl ?_
  obtain ⟨b13, hl0, s⟩ := s
  exact zr (⟨⟨k8, 0, none⟩, (.bool b13), rfl, loadH1 TF.agg_4 hl0, s.imp fun _ q => ⟨_, rfl, q⟩⟩)
 ·replace s := s.1 rfl
  refine au 6 rfl ?_
  obtain ⟨l14, hln, hl, s⟩ := s
  refine zg rfl (sem_loadN ⟨k6, 0, none⟩ l14 rfl TF.agg_71 (TF.sz_71.trans (congrArg some hln.symm)) hl ?_)
  refine zcall s rfl rfl TF.goes_43 ?_
  rintro _ h15 ⟨p16, p17, p18, b19, rfl, s⟩
  refine au 4 rfl ?_
  cases b19
  ·replace s := s.2 rfl
   refine au 1 rfl ?_
   refine zal s rfl TF.zero_72 rfl fun k20 h21 s => ?_
   refine au 2 rfl ?_
   refine zs1 s rfl rfl rfl rfl TF.sz_72 fun h22 s => ?_
   refine au 16 rfl ?_
   refine zs1 s rfl rfl rfl rfl TF.sz_4 fun h23 s => ?_
   refine au 1 rfl ?_
   obtain ⟨b24, hl0, s⟩ := s
   exact zr (⟨⟨k8, 0, none⟩, (.bool b24), rfl, loadH1 TF.agg_4 hl0, s.imp fun _ q => ⟨_, rfl, q⟩⟩)
  ·replace s := s.1 rfl
   refine au 1 rfl ?_
   refine zal s rfl TF.zero_72 rfl fun k25 h26 s => ?_
   refine au 2 rfl ?_
   refine zs1 s rfl rfl rfl rfl TF.sz_72 fun h27 s => ?_
   refine au 2 rfl ?_
   refine Run.seqJ (fun e h29 => Agree [(1, (.slice a2 n3 c4)), (4, (.pointer (some ⟨k8, 0, none⟩))), (5, (.pointer p16)), (6, (.pointer p17)), (7, (.pointer (some ⟨k25, 0, none⟩)))] e ∧ S_countermandlaw14_SheetDoes_J1 B a2 n3 c4 k8 p16 p17 k25 h29 Q) ?_ fun j28 => ?_
   ·rintro e h29 ⟨hag, s⟩
    refine Run.env hag ?_; clear hag
    refine au 3 rfl ?_
    refine zcall s rfl rfl TF.goes_50 ?_
    rintro _ h30 ⟨s31, rfl, s⟩
    refine au 2 rfl ?_
    refine Run.seqJ (fun e h33 => Agree [(4, (.pointer (some ⟨k8, 0, none⟩))), (5, (.pointer p16)), (6, (.pointer p17)), (7, (.pointer (some ⟨k25, 0, none⟩))), (9, (.string s31))] e ∧ S_countermandlaw14_SheetDoes_J2 B k8 p16 p17 k25 s31 h33 Q) ?_ fun j32 => ?_
    ·rintro e h33 ⟨hag, s⟩
     refine Run.env hag ?_; clear hag
     refine au 2 rfl ?_
     refine zal s rfl TF.zero_3 rfl fun k34 h35 s => ?_
     refine zs1 s rfl rfl rfl rfl TF.sz_3 fun h36 s => ?_
     refine au 1 rfl ?_
     refine Run.seqJ (fun e h38 => Agree [(4, (.pointer (some ⟨k8, 0, none⟩))), (5, (.pointer p16)), (6, (.pointer p17)), (7, (.pointer (some ⟨k25, 0, none⟩))), (9, (.string s31)), (15, (.pointer (some ⟨k34, 0, none⟩)))] e ∧ S_countermandlaw14_SheetDoes_J3 B k8 p16 p17 k25 s31 k34 h38 Q) ?_ fun j37 => ?_
     ·rintro e h38 ⟨hag, s⟩
      refine Run.env hag ?_; clear hag
      refine au 8 rfl ?_
      refine zcall s rfl rfl TF.goes_23 ?_
      rintro _ h39 ⟨b40, s41, b42, rfl, s⟩
      refine au 2 rfl ?_
      cases b42
      ·replace s := s.2 rfl
       refine au 1 rfl ?_
       refine zal s rfl TF.zero_41 rfl fun k43 h44 s => ?_
       refine zsn s rfl rfl rfl TF.sz_41 rfl fun h45 s => ?_
       refine au 2 rfl ?_
       refine Run.seqJ (fun e h47 => Agree [(4, (.pointer (some ⟨k8, 0, none⟩))), (5, (.pointer p16)), (18, (.pointer none))] e ∧ S_countermandlaw14_SheetDoes_J4 B k8 p16 h47 Q) ?_ fun j46 => ?_
       ·rintro e h47 ⟨hag, s⟩
        refine Run.env hag ?_; clear hag
        refine au 4 rfl ?_
        refine zcall s rfl rfl TF.goes_54 ?_
        rintro _ h48 ⟨b49, rfl, s⟩
        cases b49
        ·replace s := s.2 rfl
         refine au 4 rfl ?_
         refine zcall s rfl rfl TF.goes_55 ?_
         rintro _ h50 ⟨b51, rfl, s⟩
         cases b51
         ·replace s := s.2 rfl
          refine au 5 rfl ?_
          refine zcall s rfl rfl TF.goes_22 ?_
          rintro _ h52 ⟨b53, rfl, s⟩
          cases b53
          ·replace s := s.2 rfl
           refine au 5 rfl ?_
           refine zcall s rfl rfl TF.goes_56 ?_
           rintro _ h54 ⟨b55, rfl, s⟩
           cases b55
           ·replace s := s.2 rfl
            refine au 5 rfl ?_
            refine zcall s rfl rfl TF.goes_45 ?_
            rintro _ h56 ⟨b57, rfl, s⟩
            cases b57
            ·replace s := s.2 rfl
             refine au 4 rfl ?_
             refine zcall s rfl rfl TF.goes_51 ?_
             rintro _ h58 ⟨p59, rfl, s⟩
             by_cases hb60 : p59 = none
             ·replace s := s.1 hb60
              refine zg rfl (sem_ptrNilT p59 (.inl rfl) true rfl rfl TF.ptr_95 hb60 rfl ?_)
              refine au 3 rfl ?_
              refine zcall s rfl rfl TF.goes_47 ?_
              rintro _ h61 ⟨p62, rfl, s⟩
              by_cases hb63 : p62 = none
              ·replace s := s.1 hb63
               refine zg rfl (sem_ptrNilT p62 (.inl rfl) true rfl rfl TF.ptr_28 hb63 rfl ?_)
               refine au 4 rfl ?_
               refine zcall s rfl rfl TF.goes_48 ?_
               rintro _ h64 ⟨i65, rfl, s⟩
               refine au 2 rfl ?_
               refine zs1 s rfl rfl rfl rfl TF.sz_4 fun h66 s => ?_
               refine au 1 rfl ?_
               obtain ⟨b67, hl0, s⟩ := s
               exact zr (⟨⟨k8, 0, none⟩, (.bool b67), rfl, loadH1 TF.agg_4 hl0, s.imp fun _ q => ⟨_, rfl, q⟩⟩)
              ·replace s := s.2 hb63
               refine zg rfl (sem_ptrNilF p62 (.inl rfl) false rfl rfl TF.ptr_28 hb63 rfl ?_)
               refine au 7 rfl ?_
               refine zs1 s rfl rfl rfl rfl TF.sz_4 fun h68 s => ?_
               refine au 1 rfl ?_
               obtain ⟨b69, hl0, s⟩ := s
               exact zr (⟨⟨k8, 0, none⟩, (.bool b69), rfl, loadH1 TF.agg_4 hl0, s.imp fun _ q => ⟨_, rfl, q⟩⟩)
             ·replace s := s.2 hb60
              refine zg rfl (sem_ptrNilF p59 (.inl rfl) false rfl rfl TF.ptr_95 hb60 rfl ?_)
              refine au 12 rfl ?_
              refine zs1 s rfl rfl rfl rfl TF.sz_4 fun h70 s => ?_
              refine au 1 rfl ?_
              obtain ⟨b71, hl0, s⟩ := s
              exact zr (⟨⟨k8, 0, none⟩, (.bool b71), rfl, loadH1 TF.agg_4 hl0, s.imp fun _ q => ⟨_, rfl, q⟩⟩)
            ·replace s := s.1 rfl
             refine au 18 rfl ?_
             refine zs1 s rfl rfl rfl rfl TF.sz_4 fun h72 s => ?_
             refine au 1 rfl ?_
             obtain ⟨b73, hl0, s⟩ := s
             exact zr (⟨⟨k8, 0, none⟩, (.bool b73), rfl, loadH1 TF.agg_4 hl0, s.imp fun _ q => ⟨_, rfl, q⟩⟩)
           ·replace s := s.1 rfl
            refine au 24 rfl ?_
            refine zs1 s rfl rfl rfl rfl TF.sz_4 fun h74 s => ?_
            refine au 1 rfl ?_
            obtain ⟨b75, hl0, s⟩ := s
            exact zr (⟨⟨k8, 0, none⟩, (.bool b75), rfl, loadH1 TF.agg_4 hl0, s.imp fun _ q => ⟨_, rfl, q⟩⟩)
          ·replace s := s.1 rfl
           refine au 30 rfl ?_
           refine zs1 s rfl rfl rfl rfl TF.sz_4 fun h76 s => ?_
           refine au 1 rfl ?_
           obtain ⟨b77, hl0, s⟩ := s
           exact zr (⟨⟨k8, 0, none⟩, (.bool b77), rfl, loadH1 TF.agg_4 hl0, s.imp fun _ q => ⟨_, rfl, q⟩⟩)
         ·replace s := s.1 rfl
          refine au 36 rfl ?_
          refine zs1 s rfl rfl rfl rfl TF.sz_4 fun h78 s => ?_
          refine au 1 rfl ?_
          obtain ⟨b79, hl0, s⟩ := s
          exact zr (⟨⟨k8, 0, none⟩, (.bool b79), rfl, loadH1 TF.agg_4 hl0, s.imp fun _ q => ⟨_, rfl, q⟩⟩)
        ·replace s := s.1 rfl
         refine au 41 rfl ?_
         refine zs1 s rfl rfl rfl rfl TF.sz_4 fun h80 s => ?_
         refine au 1 rfl ?_
         obtain ⟨b81, hl0, s⟩ := s
         exact zr (⟨⟨k8, 0, none⟩, (.bool b81), rfl, loadH1 TF.agg_4 hl0, s.imp fun _ q => ⟨_, rfl, q⟩⟩)
       refine au 1 rfl ?_
       obtain ⟨i82, hl, s⟩ := s
       have f83 := hl
       refine Run.drawM (fun h' => cellH B h' ⟨k34, 0, none⟩ = some (.int .i64 (i82)) ∧ True) [] ⟨[0, 0, 2, 4, 9, 24, 32, 96, 32, 416, 544, 1152, 2048, 2048, 10240, 18432, 34816, 67584, 137216, 264192, 526336, 1048576, 3145728], [8388607, 8388607, 8388605, 8388603, 8388598, 8388591, 8388575, 8388511, 8388575, 8388191, 8388063, 8387583, 8386559, 8386559, 8378367, 8370175, 8353791, 8321023, 8251391, 8124415, 7864319, 7340031, 5242879], [0, 0, 0, 0, 0, 0, 0, 0, 0, 0, 0, 0, 0, 0, 0, 0, 0, 0, 0, 0, 0, 0, 0], 0⟩ (.q 0 (.q 1 (.x 2 (.x 3 (.q 4 (.q 5 (.q 6 (.q 8 (.x 7 (.q 9 (.q 10 (.q 11 (.x 12 (.x 13 (.q 14 (.q 15 (.q 16 (.x 17 (.q 18 (.q 19 (.q 20 (.q 21 (.q 22 .nil))))) .no)))) .no) (.x 13 (.q 14 (.q 15 (.q 16 (.x 12 (.x 17 (.q 18 (.q 19 (.q 20 (.q 21 (.q 22 .nil))))) .no) (.x 17 (.x 12 (.q 18 (.q 19 (.q 20 (.q 21 (.q 22 .nil))))) .no) .no))))) .no))))) .no))))) .no) .no))) TF.mixed (by kernel_rfl) ⟨f83, trivial⟩ ?_
       refine zq rfl (fun _ hC => sem_load1 ⟨k34, 0, none⟩ ((.int .i64 (i82))) rfl TF.agg_3 hC.1 ⟨rfl, rfl⟩) ?_
       refine auT 1 rfl ?_
       refine ⟨zo rfl (sem_callL [(.pointer p17)] (TF.goes_51) rfl rfl (Spec.mono s fun v h85 hv => ?_)), trivial⟩
       obtain ⟨p86, rfl, s⟩ := hv
       obtain ⟨g87, s⟩ := s
       refine ⟨fun _ => ⟨g87, trivial⟩, ?_⟩
       refine ⟨zo rfl (sem_callL [(.pointer p86)] (TF.goes_53) rfl rfl (Spec.mono s fun v h88 hv => ?_)), trivial⟩
       obtain ⟨i89, rfl, s⟩ := hv
       obtain ⟨g90, s⟩ := s
       refine ⟨fun _ => ⟨g90, trivial⟩, ?_⟩
       by_cases hb91 : (i82 : Int) = i89
       ·replace s := s.1 hb91
        refine zq rfl (fun _ _ => sem_binI .i64 (i82) (i89) (.bool false) rfl rfl (binI_neq_t hb91) ⟨rfl, rfl⟩) ?_
        refine auT 3 rfl ?_
        refine ⟨zo rfl (sem_callL [(.pointer p16)] (TF.goes_50) rfl rfl (Spec.mono s fun v h92 hv => ?_)), trivial⟩
        obtain ⟨s93, rfl, s⟩ := hv
        obtain ⟨g94, s⟩ := s
        refine ⟨fun _ => ⟨g94, trivial⟩, ?_⟩
        by_cases hb95 : s93 = s31
        ·replace s := s.1 hb95
         refine zq rfl (fun _ _ => sem_strNeT s93 s31 rfl rfl hb95 ⟨rfl, rfl⟩) ?_
         refine auT 2 rfl ?_
         refine RunT.joinJ (t := (.q 18 (.q 19 (.q 20 (.q 21 (.q 22 .nil)))))) (fun e h119 => ∃ b115 : Bool, ∃ s116 : ByteArray, ∃ b117 : Bool, ∃ s118 : ByteArray, Agree [(4, (.pointer (some ⟨k8, 0, none⟩))), (5, (.pointer p16)), (18, (.pointer none)), (20, (.bool false)), (127, (.bool false)), (128, (.agg #[(.bool b115), (.string s116)])), (133, (.agg #[(.bool b117), (.string s118)]))] e ∧ cellH B h119 ⟨k34, 0, none⟩ = some (.int .i64 (i82)) ∧ S_countermandlaw14_SheetDoes_J5 B k8 p16 k34 i82 b115 s116 b117 s118 h119 Q) ?_ fun j114 => ?_
         ·rintro e h119 ⟨b115, s116, b117, s118, hag, g120, s⟩
          refine RunT.env hag ?_; clear hag
          by_cases hb121 : eqL [(.bool b115), (.string s116)] [(.bool b117), (.string s118)] = true
          ·replace s := s.1 hb121
           refine zq rfl (fun _ _ => sem_aggEq [(.bool b115), (.string s116)] [(.bool b117), (.string s118)] _ (false) (.inr rfl) rfl rfl TF.agg_76 TF.flat_76 TF.eqg_76 ⟨⟨_, rfl⟩, ⟨_, rfl⟩, trivial⟩ ⟨⟨_, rfl⟩, ⟨_, rfl⟩, trivial⟩ (eqLT_neq hb121) ⟨rfl, rfl⟩) ?_
           refine auT 4 rfl ?_
           refine au 2 rfl ?_
           exact Run.of_fin (s.imp fun h' s => j46 _ _ ⟨⟨rfl, rfl, rfl, trivial⟩, s⟩)
          ·replace s := s.2 hb121
           refine zq rfl (fun _ _ => sem_aggEq [(.bool b115), (.string s116)] [(.bool b117), (.string s118)] _ (true) (.inr rfl) rfl rfl TF.agg_76 TF.flat_76 TF.eqg_76 ⟨⟨_, rfl⟩, ⟨_, rfl⟩, trivial⟩ ⟨⟨_, rfl⟩, ⟨_, rfl⟩, trivial⟩ (eqLF_neq hb121) ⟨rfl, rfl⟩) ?_
           refine auT 4 rfl ?_
           refine au 3 rfl ?_
           refine zs1 s rfl rfl rfl rfl TF.sz_4 fun h122 s => ?_
           refine au 1 rfl ?_
           obtain ⟨b123, hl0, s⟩ := s
           exact zr (⟨⟨k8, 0, none⟩, (.bool b123), rfl, loadH1 TF.agg_4 hl0, s.imp fun _ q => ⟨_, rfl, q⟩⟩)
         refine ⟨?_, ?_, trivial⟩
         ·have s := s.1
          obtain ⟨b124, s125, hl, s⟩ := s
          refine zo rfl (sem_loadN ⟨k43, 0, none⟩ [(.bool b124), (.string s125)] rfl TF.agg_41 TF.sz_41 hl ?_)
          refine ⟨fun _ => ⟨g94, trivial⟩, ?_⟩
          obtain ⟨p126, hl, s⟩ := s
          refine ⟨zo rfl (sem_load1 ⟨k25, 0, none⟩ ((.pointer p126)) rfl TF.agg_72 hl ?_), trivial⟩
          refine ⟨fun _ => ⟨g94, trivial⟩, ?_⟩
          obtain ⟨A127, e128, s⟩ := s
          refine zq rfl (fun _ _ => sem_nilCheck A127 (congrArg Value.pointer e128) ⟨rfl, rfl⟩) ?_
          refine auT 1 rfl ?_
          obtain ⟨hi0, hi1, s⟩ := s
          refine zq rfl (fun _ _ => sem_indexAddrA A127 .i64 (0) rfl rfl TF.arr_77 hi0 hi1 ⟨rfl, rfl⟩) ?_
          obtain ⟨b129, s130, hl, s⟩ := s
          refine ⟨zo rfl (sem_loadN A127 [(.bool b129), (.string s130)] rfl TF.agg_76 TF.sz_76 hl ?_), trivial⟩
          refine ⟨fun _ => ⟨g94, trivial⟩, ?_⟩
          exact j114 _ _ ⟨(b124), s125, (b129), s130, ⟨rfl, rfl, rfl, rfl, rfl, rfl, rfl, trivial⟩, g94, s⟩
         ·have s := s.2
          obtain ⟨p131, hl, s⟩ := s
          refine zo rfl (sem_load1 ⟨k25, 0, none⟩ ((.pointer p131)) rfl TF.agg_72 hl ?_)
          refine ⟨fun _ => ⟨g94, trivial⟩, ?_⟩
          obtain ⟨A132, e133, s⟩ := s
          refine zq rfl (fun _ _ => sem_nilCheck A132 (congrArg Value.pointer e133) ⟨rfl, rfl⟩) ?_
          refine auT 1 rfl ?_
          obtain ⟨hi0, hi1, s⟩ := s
          refine zq rfl (fun _ _ => sem_indexAddrA A132 .i64 (0) rfl rfl TF.arr_77 hi0 hi1 ⟨rfl, rfl⟩) ?_
          refine ⟨?_, ?_, trivial⟩
          ·have s := s.1
           obtain ⟨b134, s135, hl, s⟩ := s
           refine zo rfl (sem_loadN ⟨k43, 0, none⟩ [(.bool b134), (.string s135)] rfl TF.agg_41 TF.sz_41 hl ?_)
           refine ⟨fun _ => ⟨g94, trivial⟩, ?_⟩
           obtain ⟨b136, s137, hl, s⟩ := s
           refine ⟨zo rfl (sem_loadN A132 [(.bool b136), (.string s137)] rfl TF.agg_76 TF.sz_76 hl ?_), trivial⟩
           refine ⟨fun _ => ⟨g94, trivial⟩, ?_⟩
           exact j114 _ _ ⟨(b134), s135, (b136), s137, ⟨rfl, rfl, rfl, rfl, rfl, rfl, rfl, trivial⟩, g94, s⟩
          ·have s := s.2
           obtain ⟨b138, s139, hl, s⟩ := s
           refine zo rfl (sem_loadN A132 [(.bool b138), (.string s139)] rfl TF.agg_76 TF.sz_76 hl ?_)
           refine ⟨fun _ => ⟨g94, trivial⟩, ?_⟩
           obtain ⟨b140, s141, hl, s⟩ := s
           refine ⟨zo rfl (sem_loadN ⟨k43, 0, none⟩ [(.bool b140), (.string s141)] rfl TF.agg_41 TF.sz_41 hl ?_), trivial⟩
           refine ⟨fun _ => ⟨g94, trivial⟩, ?_⟩
           exact j114 _ _ ⟨(b140), s141, (b138), s139, ⟨rfl, rfl, rfl, rfl, rfl, rfl, rfl, trivial⟩, g94, s⟩
        ·replace s := s.2 hb95
         refine zq rfl (fun _ _ => sem_strNeF s93 s31 rfl rfl hb95 ⟨rfl, rfl⟩) ?_
         refine auT 2 rfl ?_
         refine RunT.joinJ (t := (.q 18 (.q 19 (.q 20 (.q 21 (.q 22 .nil)))))) (fun e h143 => Agree [(4, (.pointer (some ⟨k8, 0, none⟩))), (5, (.pointer p16)), (18, (.pointer none)), (20, (.bool false)), (127, (.bool true))] e ∧ cellH B h143 ⟨k34, 0, none⟩ = some (.int .i64 (i82)) ∧ S_countermandlaw14_SheetDoes_J6 B k8 p16 k34 i82 h143 Q) ?_ fun j142 => ?_
         ·rintro e h143 ⟨hag, g144, s⟩
          refine RunT.env hag ?_; clear hag
          refine auT 5 rfl ?_
          refine au 3 rfl ?_
          refine zs1 s rfl rfl rfl rfl TF.sz_4 fun h145 s => ?_
          refine au 1 rfl ?_
          obtain ⟨b146, hl0, s⟩ := s
          exact zr (⟨⟨k8, 0, none⟩, (.bool b146), rfl, loadH1 TF.agg_4 hl0, s.imp fun _ q => ⟨_, rfl, q⟩⟩)
         refine ⟨?_, ?_, trivial⟩
         ·have s := s.1
          refine zon rfl ⟨fun _ => ⟨g94, trivial⟩, ?_⟩
          refine ⟨zon rfl ⟨fun _ => ⟨g94, trivial⟩, ?_⟩, trivial⟩
          refine auT 3 rfl ?_
          refine ⟨zon rfl ⟨fun _ => ⟨g94, trivial⟩, ?_⟩, trivial⟩
          exact j142 _ _ ⟨⟨rfl, rfl, rfl, rfl, rfl, trivial⟩, g94, s⟩
         ·have s := s.2
          refine zon rfl ⟨fun _ => ⟨g94, trivial⟩, ?_⟩
          refine auT 3 rfl ?_
          refine ⟨?_, ?_, trivial⟩
          ·have s := s.1
           refine zon rfl ⟨fun _ => ⟨g94, trivial⟩, ?_⟩
           refine ⟨zon rfl ⟨fun _ => ⟨g94, trivial⟩, ?_⟩, trivial⟩
           exact j142 _ _ ⟨⟨rfl, rfl, rfl, rfl, rfl, trivial⟩, g94, s⟩
          ·have s := s.2
           refine zon rfl ⟨fun _ => ⟨g94, trivial⟩, ?_⟩
           refine ⟨zon rfl ⟨fun _ => ⟨g94, trivial⟩, ?_⟩, trivial⟩
           exact j142 _ _ ⟨⟨rfl, rfl, rfl, rfl, rfl, trivial⟩, g94, s⟩
       ·replace s := s.2 hb91
        refine zq rfl (fun _ _ => sem_binI .i64 (i82) (i89) (.bool true) rfl rfl (binI_neq_f hb91) ⟨rfl, rfl⟩) ?_
        refine auT 3 rfl ?_
        refine ⟨zon rfl ⟨fun _ => ⟨g90, trivial⟩, ?_⟩, trivial⟩
        refine auT 3 rfl ?_
        refine RunT.joinJ (t := (.q 18 (.q 19 (.q 20 (.q 21 (.q 22 .nil)))))) (fun e h148 => Agree [(4, (.pointer (some ⟨k8, 0, none⟩))), (5, (.pointer p16)), (18, (.pointer none)), (20, (.bool false)), (127, (.bool true))] e ∧ cellH B h148 ⟨k34, 0, none⟩ = some (.int .i64 (i82)) ∧ S_countermandlaw14_SheetDoes_J7 B k8 p16 k34 i82 h148 Q) ?_ fun j147 => ?_
        ·rintro e h148 ⟨hag, g149, s⟩
         refine RunT.env hag ?_; clear hag
         refine auT 5 rfl ?_
         refine au 3 rfl ?_
         refine zs1 s rfl rfl rfl rfl TF.sz_4 fun h150 s => ?_
         refine au 1 rfl ?_
         obtain ⟨b151, hl0, s⟩ := s
         exact zr (⟨⟨k8, 0, none⟩, (.bool b151), rfl, loadH1 TF.agg_4 hl0, s.imp fun _ q => ⟨_, rfl, q⟩⟩)
        refine ⟨?_, ?_, trivial⟩
        ·have s := s.1
         refine zon rfl ⟨fun _ => ⟨g90, trivial⟩, ?_⟩
         refine ⟨zon rfl ⟨fun _ => ⟨g90, trivial⟩, ?_⟩, trivial⟩
         refine auT 3 rfl ?_
         refine ⟨zon rfl ⟨fun _ => ⟨g90, trivial⟩, ?_⟩, trivial⟩
         exact j147 _ _ ⟨⟨rfl, rfl, rfl, rfl, rfl, trivial⟩, g90, s⟩
        ·have s := s.2
         refine zon rfl ⟨fun _ => ⟨g90, trivial⟩, ?_⟩
         refine auT 3 rfl ?_
         refine ⟨?_, ?_, trivial⟩
         ·have s := s.1
          refine zon rfl ⟨fun _ => ⟨g90, trivial⟩, ?_⟩
          refine ⟨zon rfl ⟨fun _ => ⟨g90, trivial⟩, ?_⟩, trivial⟩
          exact j147 _ _ ⟨⟨rfl, rfl, rfl, rfl, rfl, trivial⟩, g90, s⟩
         ·have s := s.2
          refine zon rfl ⟨fun _ => ⟨g90, trivial⟩, ?_⟩
          refine ⟨zon rfl ⟨fun _ => ⟨g90, trivial⟩, ?_⟩, trivial⟩
          exact j147 _ _ ⟨⟨rfl, rfl, rfl, rfl, rfl, trivial⟩, g90, s⟩
      ·replace s := s.1 rfl
       refine au 1 rfl ?_
       refine zal s rfl TF.zero_41 rfl fun k152 h153 s => ?_
       refine zsn s rfl rfl rfl TF.sz_41 rfl fun h154 s => ?_
       refine au 4 rfl ?_
       obtain ⟨i155, hl, s⟩ := s
       have f156 := hl
       refine Run.drawM (fun h' => cellH B h' ⟨k34, 0, none⟩ = some (.int .i64 (i155)) ∧ True) [] ⟨[0, 0, 2, 4, 9, 24, 32, 96, 32, 416, 544, 1152, 2048, 2048, 10240, 18432, 34816, 67584, 137216, 264192, 526336, 1048576, 3145728], [8388607, 8388607, 8388605, 8388603, 8388598, 8388591, 8388575, 8388511, 8388575, 8388191, 8388063, 8387583, 8386559, 8386559, 8378367, 8370175, 8353791, 8321023, 8251391, 8124415, 7864319, 7340031, 5242879], [0, 0, 0, 0, 0, 0, 0, 0, 0, 0, 0, 0, 0, 0, 0, 0, 0, 0, 0, 0, 0, 0, 0], 0⟩ (.q 0 (.q 1 (.x 2 (.x 3 (.q 4 (.q 5 (.q 6 (.q 8 (.x 7 (.q 9 (.q 10 (.q 11 (.x 12 (.x 13 (.q 14 (.q 15 (.q 16 (.x 17 (.q 18 (.q 19 (.q 20 (.q 21 (.q 22 .nil))))) .no)))) .no) (.x 13 (.q 14 (.q 15 (.q 16 (.x 12 (.x 17 (.q 18 (.q 19 (.q 20 (.q 21 (.q 22 .nil))))) .no) (.x 17 (.x 12 (.q 18 (.q 19 (.q 20 (.q 21 (.q 22 .nil))))) .no) .no))))) .no))))) .no))))) .no) .no))) TF.mixed (by kernel_rfl) ⟨f156, trivial⟩ ?_
       refine zq rfl (fun _ hC => sem_load1 ⟨k34, 0, none⟩ ((.int .i64 (i155))) rfl TF.agg_3 hC.1 ⟨rfl, rfl⟩) ?_
       refine auT 1 rfl ?_
       refine ⟨zo rfl (sem_callL [(.pointer p17)] (TF.goes_51) rfl rfl (Spec.mono s fun v h158 hv => ?_)), trivial⟩
       obtain ⟨p159, rfl, s⟩ := hv
       obtain ⟨g160, s⟩ := s
       refine ⟨fun _ => ⟨g160, trivial⟩, ?_⟩
       refine ⟨zo rfl (sem_callL [(.pointer p159)] (TF.goes_53) rfl rfl (Spec.mono s fun v h161 hv => ?_)), trivial⟩
       obtain ⟨i162, rfl, s⟩ := hv
       obtain ⟨g163, s⟩ := s
       refine ⟨fun _ => ⟨g163, trivial⟩, ?_⟩
       by_cases hb164 : (i155 : Int) = i162
       ·replace s := s.1 hb164
        refine zq rfl (fun _ _ => sem_binI .i64 (i155) (i162) (.bool false) rfl rfl (binI_neq_t hb164) ⟨rfl, rfl⟩) ?_
        refine auT 3 rfl ?_
        refine ⟨zo rfl (sem_callL [(.pointer p16)] (TF.goes_50) rfl rfl (Spec.mono s fun v h165 hv => ?_)), trivial⟩
        obtain ⟨s166, rfl, s⟩ := hv
        obtain ⟨g167, s⟩ := s
        refine ⟨fun _ => ⟨g167, trivial⟩, ?_⟩
        by_cases hb168 : s166 = s31
        ·replace s := s.1 hb168
         refine zq rfl (fun _ _ => sem_strNeT s166 s31 rfl rfl hb168 ⟨rfl, rfl⟩) ?_
         refine auT 2 rfl ?_
         refine RunT.joinJ (t := (.q 18 (.q 19 (.q 20 (.q 21 (.q 22 .nil)))))) (fun e h192 => ∃ b188 : Bool, ∃ s189 : ByteArray, ∃ b190 : Bool, ∃ s191 : ByteArray, Agree [(4, (.pointer (some ⟨k8, 0, none⟩))), (5, (.pointer p16)), (18, (.pointer none)), (20, (.bool true)), (127, (.bool false)), (128, (.agg #[(.bool b188), (.string s189)])), (133, (.agg #[(.bool b190), (.string s191)]))] e ∧ cellH B h192 ⟨k34, 0, none⟩ = some (.int .i64 (i155)) ∧ S_countermandlaw14_SheetDoes_J8 B k8 p16 k34 i155 b188 s189 b190 s191 h192 Q) ?_ fun j187 => ?_
         ·rintro e h192 ⟨b188, s189, b190, s191, hag, g193, s⟩
          refine RunT.env hag ?_; clear hag
          by_cases hb194 : eqL [(.bool b188), (.string s189)] [(.bool b190), (.string s191)] = true
          ·replace s := s.1 hb194
           refine zq rfl (fun _ _ => sem_aggEq [(.bool b188), (.string s189)] [(.bool b190), (.string s191)] _ (false) (.inr rfl) rfl rfl TF.agg_76 TF.flat_76 TF.eqg_76 ⟨⟨_, rfl⟩, ⟨_, rfl⟩, trivial⟩ ⟨⟨_, rfl⟩, ⟨_, rfl⟩, trivial⟩ (eqLT_neq hb194) ⟨rfl, rfl⟩) ?_
           refine auT 4 rfl ?_
           refine au 3 rfl ?_
           refine zs1 s rfl rfl rfl rfl TF.sz_4 fun h195 s => ?_
           refine au 1 rfl ?_
           obtain ⟨b196, hl0, s⟩ := s
           exact zr (⟨⟨k8, 0, none⟩, (.bool b196), rfl, loadH1 TF.agg_4 hl0, s.imp fun _ q => ⟨_, rfl, q⟩⟩)
          ·replace s := s.2 hb194
           refine zq rfl (fun _ _ => sem_aggEq [(.bool b188), (.string s189)] [(.bool b190), (.string s191)] _ (true) (.inr rfl) rfl rfl TF.agg_76 TF.flat_76 TF.eqg_76 ⟨⟨_, rfl⟩, ⟨_, rfl⟩, trivial⟩ ⟨⟨_, rfl⟩, ⟨_, rfl⟩, trivial⟩ (eqLF_neq hb194) ⟨rfl, rfl⟩) ?_
           refine auT 4 rfl ?_
           refine au 3 rfl ?_
           refine zs1 s rfl rfl rfl rfl TF.sz_4 fun h197 s => ?_
           refine au 1 rfl ?_
           obtain ⟨b198, hl0, s⟩ := s
           exact zr (⟨⟨k8, 0, none⟩, (.bool b198), rfl, loadH1 TF.agg_4 hl0, s.imp fun _ q => ⟨_, rfl, q⟩⟩)
         refine ⟨?_, ?_, trivial⟩
         ·have s := s.1
          obtain ⟨b199, s200, hl, s⟩ := s
          refine zo rfl (sem_loadN ⟨k152, 0, none⟩ [(.bool b199), (.string s200)] rfl TF.agg_41 TF.sz_41 hl ?_)
          refine ⟨fun _ => ⟨g167, trivial⟩, ?_⟩
          obtain ⟨p201, hl, s⟩ := s
          refine ⟨zo rfl (sem_load1 ⟨k25, 0, none⟩ ((.pointer p201)) rfl TF.agg_72 hl ?_), trivial⟩
          refine ⟨fun _ => ⟨g167, trivial⟩, ?_⟩
          obtain ⟨A202, e203, s⟩ := s
          refine zq rfl (fun _ _ => sem_nilCheck A202 (congrArg Value.pointer e203) ⟨rfl, rfl⟩) ?_
          refine auT 1 rfl ?_
          obtain ⟨hi0, hi1, s⟩ := s
          refine zq rfl (fun _ _ => sem_indexAddrA A202 .i64 (0) rfl rfl TF.arr_77 hi0 hi1 ⟨rfl, rfl⟩) ?_
          obtain ⟨b204, s205, hl, s⟩ := s
          refine ⟨zo rfl (sem_loadN A202 [(.bool b204), (.string s205)] rfl TF.agg_76 TF.sz_76 hl ?_), trivial⟩
          refine ⟨fun _ => ⟨g167, trivial⟩, ?_⟩
          exact j187 _ _ ⟨(b199), s200, (b204), s205, ⟨rfl, rfl, rfl, rfl, rfl, rfl, rfl, trivial⟩, g167, s⟩
         ·have s := s.2
          obtain ⟨p206, hl, s⟩ := s
          refine zo rfl (sem_load1 ⟨k25, 0, none⟩ ((.pointer p206)) rfl TF.agg_72 hl ?_)
          refine ⟨fun _ => ⟨g167, trivial⟩, ?_⟩
          obtain ⟨A207, e208, s⟩ := s
          refine zq rfl (fun _ _ => sem_nilCheck A207 (congrArg Value.pointer e208) ⟨rfl, rfl⟩) ?_
          refine auT 1 rfl ?_
          obtain ⟨hi0, hi1, s⟩ := s
          refine zq rfl (fun _ _ => sem_indexAddrA A207 .i64 (0) rfl rfl TF.arr_77 hi0 hi1 ⟨rfl, rfl⟩) ?_
          refine ⟨?_, ?_, trivial⟩
          ·have s := s.1
           obtain ⟨b209, s210, hl, s⟩ := s
           refine zo rfl (sem_loadN ⟨k152, 0, none⟩ [(.bool b209), (.string s210)] rfl TF.agg_41 TF.sz_41 hl ?_)
           refine ⟨fun _ => ⟨g167, trivial⟩, ?_⟩
           obtain ⟨b211, s212, hl, s⟩ := s
           refine ⟨zo rfl (sem_loadN A207 [(.bool b211), (.string s212)] rfl TF.agg_76 TF.sz_76 hl ?_), trivial⟩
           refine ⟨fun _ => ⟨g167, trivial⟩, ?_⟩
           exact j187 _ _ ⟨(b209), s210, (b211), s212, ⟨rfl, rfl, rfl, rfl, rfl, rfl, rfl, trivial⟩, g167, s⟩
          ·have s := s.2
           obtain ⟨b213, s214, hl, s⟩ := s
           refine zo rfl (sem_loadN A207 [(.bool b213), (.string s214)] rfl TF.agg_76 TF.sz_76 hl ?_)
           refine ⟨fun _ => ⟨g167, trivial⟩, ?_⟩
           obtain ⟨b215, s216, hl, s⟩ := s
           refine ⟨zo rfl (sem_loadN ⟨k152, 0, none⟩ [(.bool b215), (.string s216)] rfl TF.agg_41 TF.sz_41 hl ?_), trivial⟩
           refine ⟨fun _ => ⟨g167, trivial⟩, ?_⟩
           exact j187 _ _ ⟨(b215), s216, (b213), s214, ⟨rfl, rfl, rfl, rfl, rfl, rfl, rfl, trivial⟩, g167, s⟩
        ·replace s := s.2 hb168
         refine zq rfl (fun _ _ => sem_strNeF s166 s31 rfl rfl hb168 ⟨rfl, rfl⟩) ?_
         refine auT 2 rfl ?_
         refine RunT.joinJ (t := (.q 18 (.q 19 (.q 20 (.q 21 (.q 22 .nil)))))) (fun e h218 => Agree [(4, (.pointer (some ⟨k8, 0, none⟩))), (5, (.pointer p16)), (18, (.pointer none)), (20, (.bool true)), (127, (.bool true))] e ∧ cellH B h218 ⟨k34, 0, none⟩ = some (.int .i64 (i155)) ∧ S_countermandlaw14_SheetDoes_J9 B k8 p16 k34 i155 h218 Q) ?_ fun j217 => ?_
         ·rintro e h218 ⟨hag, g219, s⟩
          refine RunT.env hag ?_; clear hag
          refine auT 5 rfl ?_
          refine au 3 rfl ?_
          refine zs1 s rfl rfl rfl rfl TF.sz_4 fun h220 s => ?_
          refine au 1 rfl ?_
          obtain ⟨b221, hl0, s⟩ := s
          exact zr (⟨⟨k8, 0, none⟩, (.bool b221), rfl, loadH1 TF.agg_4 hl0, s.imp fun _ q => ⟨_, rfl, q⟩⟩)
         refine ⟨?_, ?_, trivial⟩
         ·have s := s.1
          refine zon rfl ⟨fun _ => ⟨g167, trivial⟩, ?_⟩
          refine ⟨zon rfl ⟨fun _ => ⟨g167, trivial⟩, ?_⟩, trivial⟩
          refine auT 3 rfl ?_
          refine ⟨zon rfl ⟨fun _ => ⟨g167, trivial⟩, ?_⟩, trivial⟩
          exact j217 _ _ ⟨⟨rfl, rfl, rfl, rfl, rfl, trivial⟩, g167, s⟩
         ·have s := s.2
          refine zon rfl ⟨fun _ => ⟨g167, trivial⟩, ?_⟩
          refine auT 3 rfl ?_
          refine ⟨?_, ?_, trivial⟩
          ·have s := s.1
           refine zon rfl ⟨fun _ => ⟨g167, trivial⟩, ?_⟩
           refine ⟨zon rfl ⟨fun _ => ⟨g167, trivial⟩, ?_⟩, trivial⟩
           exact j217 _ _ ⟨⟨rfl, rfl, rfl, rfl, rfl, trivial⟩, g167, s⟩
          ·have s := s.2
           refine zon rfl ⟨fun _ => ⟨g167, trivial⟩, ?_⟩
           refine ⟨zon rfl ⟨fun _ => ⟨g167, trivial⟩, ?_⟩, trivial⟩
           exact j217 _ _ ⟨⟨rfl, rfl, rfl, rfl, rfl, trivial⟩, g167, s⟩
       ·replace s := s.2 hb164
        refine zq rfl (fun _ _ => sem_binI .i64 (i155) (i162) (.bool true) rfl rfl (binI_neq_f hb164) ⟨rfl, rfl⟩) ?_
        refine auT 3 rfl ?_
        refine ⟨zon rfl ⟨fun _ => ⟨g163, trivial⟩, ?_⟩, trivial⟩
        refine auT 3 rfl ?_
        refine RunT.joinJ (t := (.q 18 (.q 19 (.q 20 (.q 21 (.q 22 .nil)))))) (fun e h223 => Agree [(4, (.pointer (some ⟨k8, 0, none⟩))), (5, (.pointer p16)), (18, (.pointer none)), (20, (.bool true)), (127, (.bool true))] e ∧ cellH B h223 ⟨k34, 0, none⟩ = some (.int .i64 (i155)) ∧ S_countermandlaw14_SheetDoes_J10 B k8 p16 k34 i155 h223 Q) ?_ fun j222 => ?_
        ·rintro e h223 ⟨hag, g224, s⟩
         refine RunT.env hag ?_; clear hag
         refine auT 5 rfl ?_
         refine au 3 rfl ?_
         refine zs1 s rfl rfl rfl rfl TF.sz_4 fun h225 s => ?_
         refine au 1 rfl ?_
         obtain ⟨b226, hl0, s⟩ := s
         exact zr (⟨⟨k8, 0, none⟩, (.bool b226), rfl, loadH1 TF.agg_4 hl0, s.imp fun _ q => ⟨_, rfl, q⟩⟩)
        refine ⟨?_, ?_, trivial⟩
        ·have s := s.1
         refine zon rfl ⟨fun _ => ⟨g163, trivial⟩, ?_⟩
         refine ⟨zon rfl ⟨fun _ => ⟨g163, trivial⟩, ?_⟩, trivial⟩
         refine auT 3 rfl ?_
         refine ⟨zon rfl ⟨fun _ => ⟨g163, trivial⟩, ?_⟩, trivial⟩
         exact j222 _ _ ⟨⟨rfl, rfl, rfl, rfl, rfl, trivial⟩, g163, s⟩
        ·have s := s.2
         refine zon rfl ⟨fun _ => ⟨g163, trivial⟩, ?_⟩
         refine auT 3 rfl ?_
         refine ⟨?_, ?_, trivial⟩
         ·have s := s.1
          refine zon rfl ⟨fun _ => ⟨g163, trivial⟩, ?_⟩
          refine ⟨zon rfl ⟨fun _ => ⟨g163, trivial⟩, ?_⟩, trivial⟩
          exact j222 _ _ ⟨⟨rfl, rfl, rfl, rfl, rfl, trivial⟩, g163, s⟩
         ·have s := s.2
          refine zon rfl ⟨fun _ => ⟨g163, trivial⟩, ?_⟩
          refine ⟨zon rfl ⟨fun _ => ⟨g163, trivial⟩, ?_⟩, trivial⟩
          exact j222 _ _ ⟨⟨rfl, rfl, rfl, rfl, rfl, trivial⟩, g163, s⟩
     refine au 3 rfl ?_
     refine zcall s rfl rfl TF.goes_51 ?_
     rintro _ h227 ⟨p228, rfl, s⟩
     refine zcall s rfl rfl TF.goes_52 ?_
     rintro v230 h229 ⟨_, rfl, s⟩
     refine au 2 rfl ?_
     obtain ⟨xs238, G234, J237, hit, hins, hG, h0, s, hR⟩ := s
     refine Run.of_fin (h0.imp fun h' h0 => ?_)
     refine Run.range (v230) (xs238.map (fun x : Int × Bool × ByteArray => [(.int .i64 (x.1)), (.agg #[(.bool x.2.1), (.string x.2.2)])])) G234 J237 rfl hit hins hG h0 rfl (fun a ha => by obtain ⟨x, _, rfl⟩ := List.mem_map.1 ha; rfl) ?_ ?_
     ·rintro q236 args h235 ha hJ
      obtain ⟨⟨i231, b232, s233⟩, hx, rfl⟩ := Option.map_eq_some_iff.1 ((List.getElem?_map ..).symm.trans ha)
      have s := s q236 h235 i231 b232 s233 hx hJ; clear hJ hx ha
      refine zput rfl ?_
      refine au 5 rfl ?_
      refine zal s rfl TF.zero_41 rfl fun k239 h240 s => ?_
      refine zsn s rfl rfl rfl TF.sz_41 rfl fun h241 s => ?_
      refine au 1 rfl ?_
      refine Run.begin ⟨rfl, ?_⟩
      refine au 3 rfl ?_
      refine Run.anyJ (fun e h244 => ∃ b243 : Bool, Agree [(4, (.pointer (some ⟨k8, 0, none⟩))), (15, (.pointer (some ⟨k34, 0, none⟩))), (107, (.bool b243))] e ∧ S_countermandlaw14_SheetDoes_J11 B k8 k34 q236 J237 b243 h244 Q) ?_ fun j242 => ?_
      ·rintro e h244 ⟨b243, hag, s⟩
       refine Run.env hag ?_; clear hag
       cases b243
       ·replace s := s.2 rfl
        refine au 3 rfl ?_
        refine zl s rfl rfl TF.agg_3 fun i245 s => ?_
        refine au 1 rfl ?_
        refine zs1 s rfl rfl rfl rfl TF.sz_3 fun h246 s => ?_
        refine au 2 rfl ?_
        refine Run.of_fin (s.imp fun h' s => ?_)
        exact Run.fall (.inl ⟨rfl, s⟩)
       ·replace s := s.1 rfl
        refine au 3 rfl ?_
        refine zs1 s rfl rfl rfl rfl TF.sz_4 fun h247 s => ?_
        refine au 1 rfl ?_
        refine Run.ret (.inr ⟨_, rfl, ?_⟩)
        obtain ⟨b248, hl0, s⟩ := s
        exact zr (⟨⟨k8, 0, none⟩, (.bool b248), rfl, loadH1 TF.agg_4 hl0, s.imp fun _ q => ⟨_, rfl, q⟩⟩)
      refine Run.drawM (fun h' => True) [] ⟨[0, 1, 2, 6, 8, 8, 24, 72, 168, 264, 520, 1032, 2056, 4096, 4096, 4096, 20480, 69632, 167936, 266240, 536576, 1052672], [4194303, 4194302, 4194301, 4194299, 4194295, 4194295, 4194279, 4194231, 4194135, 4194039, 4193783, 4193271, 4192255, 4190207, 4190207, 4190207, 4173823, 4124671, 4026367, 3928063, 3657727, 3141631], [0, 0, 0, 0, 0, 0, 0, 0, 0, 0, 0, 0, 0, 0, 0, 0, 0, 0, 0, 0, 0, 0], 0⟩ (.q 0 (.x 1 (.q 2 (.q 3 (.q 5 (.x 4 (.q 6 (.q 7 (.q 8 (.x 9 (.q 10 (.q 11 (.q 12 (.q 15 (.x 13 (.x 14 (.q 16 (.q 17 (.q 18 (.x 19 (.q 20 (.q 21 .nil)) .no)))) .no) (.x 14 (.q 16 (.q 17 (.q 18 (.x 13 (.x 19 (.q 20 (.q 21 .nil)) .no) (.x 19 (.x 13 (.q 20 (.q 21 .nil)) .no) .no))))) .no)))))) .no)))) .no)))) .no)) TF.mixed (by kernel_rfl) trivial ?_
      refine auT 1 rfl ?_
      refine ⟨zo rfl (sem_callL [(.int .i64 (i231))] (TF.goes_44) rfl rfl (Spec.mono s fun v h251 hv => ?_)), trivial⟩
      obtain ⟨b252, rfl, s⟩ := hv
      cases b252
      ·replace s := s.2 rfl
       refine ⟨fun _ => trivial, ?_⟩
       refine auT 3 rfl ?_
       refine ⟨zon rfl ⟨fun _ => trivial, ?_⟩, trivial⟩
       refine auT 3 rfl ?_
       refine ⟨zon rfl ⟨fun _ => trivial, ?_⟩, trivial⟩
       refine auT 4 rfl ?_
       refine RunT.joinJ (t := (.q 20 (.q 21 .nil))) (fun e h254 => Agree [(4, (.pointer (some ⟨k8, 0, none⟩))), (15, (.pointer (some ⟨k34, 0, none⟩))), (98, (.bool true))] e ∧ S_countermandlaw14_SheetDoes_J12 B k8 k34 q236 J237 h254 Q) ?_ fun j253 => ?_
       ·rintro e h254 ⟨hag, s⟩
        refine RunT.env hag ?_; clear hag
        refine auT 2 rfl ?_
        exact Run.of_fin (s.imp fun h' s => j242 _ _ ⟨(true), ⟨rfl, rfl, rfl, trivial⟩, s⟩)
       refine ⟨?_, ?_, trivial⟩
       ·have s := s.1
        refine zon rfl ⟨fun _ => trivial, ?_⟩
        refine ⟨zon rfl ⟨fun _ => trivial, ?_⟩, trivial⟩
        refine auT 3 rfl ?_
        refine ⟨zon rfl ⟨fun _ => trivial, ?_⟩, trivial⟩
        exact j253 _ _ ⟨⟨rfl, rfl, rfl, trivial⟩, s⟩
       ·have s := s.2
        refine zon rfl ⟨fun _ => trivial, ?_⟩
        refine auT 3 rfl ?_
        refine ⟨?_, ?_, trivial⟩
        ·have s := s.1
         refine zon rfl ⟨fun _ => trivial, ?_⟩
         refine ⟨zon rfl ⟨fun _ => trivial, ?_⟩, trivial⟩
         exact j253 _ _ ⟨⟨rfl, rfl, rfl, trivial⟩, s⟩
        ·have s := s.2
         refine zon rfl ⟨fun _ => trivial, ?_⟩
         refine ⟨zon rfl ⟨fun _ => trivial, ?_⟩, trivial⟩
         exact j253 _ _ ⟨⟨rfl, rfl, rfl, trivial⟩, s⟩
      ·replace s := s.1 rfl
       refine ⟨fun _ => trivial, ?_⟩
       refine auT 3 rfl ?_
       obtain ⟨p255, hl, s⟩ := s
       refine ⟨zo rfl (sem_load1 ⟨k25, 0, none⟩ ((.pointer p255)) rfl TF.agg_72 hl ?_), trivial⟩
       refine ⟨fun _ => trivial, ?_⟩
       obtain ⟨A256, e257, s⟩ := s
       refine zq rfl (fun _ _ => sem_nilCheck A256 (congrArg Value.pointer e257) ⟨rfl, rfl⟩) ?_
       refine auT 1 rfl ?_
       obtain ⟨hi0, hi1, s⟩ := s
       refine zq rfl (fun _ _ => sem_indexAddrA (Addr.add A256 24) .i64 (i231) rfl rfl TF.arr_84 hi0 hi1 ⟨rfl, rfl⟩) ?_
       obtain ⟨b258, hl, s⟩ := s
       cases b258
       ·replace s := s.2 rfl
        refine ⟨zo rfl (sem_load1 (Addr.add (Addr.add A256 24) (Int.toNat (i231) * 1)) (.bool false) rfl TF.agg_4 hl ?_), trivial⟩
        refine ⟨fun _ => trivial, ?_⟩
        refine auT 4 rfl ?_
        refine RunT.joinJ (t := (.q 20 (.q 21 .nil))) (fun e h260 => Agree [(4, (.pointer (some ⟨k8, 0, none⟩))), (15, (.pointer (some ⟨k34, 0, none⟩))), (98, (.bool true))] e ∧ S_countermandlaw14_SheetDoes_J13 B k8 k34 q236 J237 h260 Q) ?_ fun j259 => ?_
        ·rintro e h260 ⟨hag, s⟩
         refine RunT.env hag ?_; clear hag
         refine auT 2 rfl ?_
         exact Run.of_fin (s.imp fun h' s => j242 _ _ ⟨(true), ⟨rfl, rfl, rfl, trivial⟩, s⟩)
        refine ⟨?_, ?_, trivial⟩
        ·have s := s.1
         refine zon rfl ⟨fun _ => trivial, ?_⟩
         refine ⟨zon rfl ⟨fun _ => trivial, ?_⟩, trivial⟩
         refine auT 3 rfl ?_
         refine ⟨zon rfl ⟨fun _ => trivial, ?_⟩, trivial⟩
         exact j259 _ _ ⟨⟨rfl, rfl, rfl, trivial⟩, s⟩
        ·have s := s.2
         refine zon rfl ⟨fun _ => trivial, ?_⟩
         refine auT 3 rfl ?_
         refine ⟨?_, ?_, trivial⟩
         ·have s := s.1
          refine zon rfl ⟨fun _ => trivial, ?_⟩
          refine ⟨zon rfl ⟨fun _ => trivial, ?_⟩, trivial⟩
          exact j259 _ _ ⟨⟨rfl, rfl, rfl, trivial⟩, s⟩
         ·have s := s.2
          refine zon rfl ⟨fun _ => trivial, ?_⟩
          refine ⟨zon rfl ⟨fun _ => trivial, ?_⟩, trivial⟩
          exact j259 _ _ ⟨⟨rfl, rfl, rfl, trivial⟩, s⟩
       ·replace s := s.1 rfl
        refine ⟨zo rfl (sem_load1 (Addr.add (Addr.add A256 24) (Int.toNat (i231) * 1)) (.bool true) rfl TF.agg_4 hl ?_), trivial⟩
        refine ⟨fun _ => trivial, ?_⟩
        refine auT 4 rfl ?_
        refine RunT.joinJ (t := (.q 20 (.q 21 .nil))) (fun e h284 => ∃ b280 : Bool, ∃ s281 : ByteArray, ∃ b282 : Bool, ∃ s283 : ByteArray, Agree [(4, (.pointer (some ⟨k8, 0, none⟩))), (15, (.pointer (some ⟨k34, 0, none⟩))), (98, (.bool false)), (99, (.agg #[(.bool b280), (.string s281)])), (105, (.agg #[(.bool b282), (.string s283)]))] e ∧ S_countermandlaw14_SheetDoes_J14 B k8 k34 q236 J237 b280 s281 b282 s283 h284 Q) ?_ fun j279 => ?_
        ·rintro e h284 ⟨b280, s281, b282, s283, hag, s⟩
         refine RunT.env hag ?_; clear hag
         by_cases hb285 : eqL [(.bool b280), (.string s281)] [(.bool b282), (.string s283)] = true
         ·replace s := s.1 hb285
          refine zq rfl (fun _ _ => sem_aggEq [(.bool b280), (.string s281)] [(.bool b282), (.string s283)] _ (false) (.inr rfl) rfl rfl TF.agg_76 TF.flat_76 TF.eqg_76 ⟨⟨_, rfl⟩, ⟨_, rfl⟩, trivial⟩ ⟨⟨_, rfl⟩, ⟨_, rfl⟩, trivial⟩ (eqLT_neq hb285) ⟨rfl, rfl⟩) ?_
          refine auT 1 rfl ?_
          exact Run.of_fin (s.imp fun h' s => j242 _ _ ⟨(false), ⟨rfl, rfl, rfl, trivial⟩, s⟩)
         ·replace s := s.2 hb285
          refine zq rfl (fun _ _ => sem_aggEq [(.bool b280), (.string s281)] [(.bool b282), (.string s283)] _ (true) (.inr rfl) rfl rfl TF.agg_76 TF.flat_76 TF.eqg_76 ⟨⟨_, rfl⟩, ⟨_, rfl⟩, trivial⟩ ⟨⟨_, rfl⟩, ⟨_, rfl⟩, trivial⟩ (eqLF_neq hb285) ⟨rfl, rfl⟩) ?_
          refine auT 1 rfl ?_
          exact Run.of_fin (s.imp fun h' s => j242 _ _ ⟨(true), ⟨rfl, rfl, rfl, trivial⟩, s⟩)
        refine ⟨?_, ?_, trivial⟩
        ·have s := s.1
         obtain ⟨b286, s287, hl, s⟩ := s
         refine zo rfl (sem_loadN ⟨k239, 0, none⟩ [(.bool b286), (.string s287)] rfl TF.agg_41 TF.sz_41 hl ?_)
         refine ⟨fun _ => trivial, ?_⟩
         obtain ⟨p288, hl, s⟩ := s
         refine ⟨zo rfl (sem_load1 ⟨k25, 0, none⟩ ((.pointer p288)) rfl TF.agg_72 hl ?_), trivial⟩
         refine ⟨fun _ => trivial, ?_⟩
         obtain ⟨A289, e290, s⟩ := s
         refine zq rfl (fun _ _ => sem_nilCheck A289 (congrArg Value.pointer e290) ⟨rfl, rfl⟩) ?_
         refine auT 1 rfl ?_
         obtain ⟨hi0, hi1, s⟩ := s
         refine zq rfl (fun _ _ => sem_indexAddrA (Addr.add A289 12) .i64 (i231) rfl rfl TF.arr_77 hi0 hi1 ⟨rfl, rfl⟩) ?_
         obtain ⟨b291, s292, hl, s⟩ := s
         refine ⟨zo rfl (sem_loadN (Addr.add (Addr.add A289 12) (Int.toNat (i231) * 2)) [(.bool b291), (.string s292)] rfl TF.agg_76 TF.sz_76 hl ?_), trivial⟩
         refine ⟨fun _ => trivial, ?_⟩
         exact j279 _ _ ⟨(b286), s287, (b291), s292, ⟨rfl, rfl, rfl, rfl, rfl, trivial⟩, s⟩
        ·have s := s.2
         obtain ⟨p293, hl, s⟩ := s
         refine zo rfl (sem_load1 ⟨k25, 0, none⟩ ((.pointer p293)) rfl TF.agg_72 hl ?_)
         refine ⟨fun _ => trivial, ?_⟩
         obtain ⟨A294, e295, s⟩ := s
         refine zq rfl (fun _ _ => sem_nilCheck A294 (congrArg Value.pointer e295) ⟨rfl, rfl⟩) ?_
         refine auT 1 rfl ?_
         obtain ⟨hi0, hi1, s⟩ := s
         refine zq rfl (fun _ _ => sem_indexAddrA (Addr.add A294 12) .i64 (i231) rfl rfl TF.arr_77 hi0 hi1 ⟨rfl, rfl⟩) ?_
         refine ⟨?_, ?_, trivial⟩
         ·have s := s.1
          obtain ⟨b296, s297, hl, s⟩ := s
          refine zo rfl (sem_loadN ⟨k239, 0, none⟩ [(.bool b296), (.string s297)] rfl TF.agg_41 TF.sz_41 hl ?_)
          refine ⟨fun _ => trivial, ?_⟩
          obtain ⟨b298, s299, hl, s⟩ := s
          refine ⟨zo rfl (sem_loadN (Addr.add (Addr.add A294 12) (Int.toNat (i231) * 2)) [(.bool b298), (.string s299)] rfl TF.agg_76 TF.sz_76 hl ?_), trivial⟩
          refine ⟨fun _ => trivial, ?_⟩
          exact j279 _ _ ⟨(b296), s297, (b298), s299, ⟨rfl, rfl, rfl, rfl, rfl, trivial⟩, s⟩
         ·have s := s.2
          obtain ⟨b300, s301, hl, s⟩ := s
          refine zo rfl (sem_loadN (Addr.add (Addr.add A294 12) (Int.toNat (i231) * 2)) [(.bool b300), (.string s301)] rfl TF.agg_76 TF.sz_76 hl ?_)
          refine ⟨fun _ => trivial, ?_⟩
          obtain ⟨b302, s303, hl, s⟩ := s
          refine ⟨zo rfl (sem_loadN ⟨k239, 0, none⟩ [(.bool b302), (.string s303)] rfl TF.agg_41 TF.sz_41 hl ?_), trivial⟩
          refine ⟨fun _ => trivial, ?_⟩
          exact j279 _ _ ⟨(b302), s303, (b300), s301, ⟨rfl, rfl, rfl, rfl, rfl, trivial⟩, s⟩
     ·intro h235 hJ
      have s := hR h235 (by simpa using hJ); clear hJ hR
      refine au 1 rfl ?_
      exact Run.of_fin (s.imp fun h' s => j37 _ _ ⟨⟨rfl, rfl, rfl, rfl, rfl, rfl, trivial⟩, s⟩)
    refine au 3 rfl ?_
    refine zg rfl (sem_lenSl a2 n3 c4 rfl TF.sl_79 ?_)
    refine au 3 rfl ?_
    obtain ⟨J309, m307, h0, s⟩ := s
    refine Run.of_fin (h0.imp fun h' h0 => ?_)
    refine Run.loop (σ := Int × Nat) (fun x e h => J309 x.1 x.2 h ∧ Agree [(4, (.pointer (some ⟨k8, 0, none⟩))), (5, (.pointer p16)), (6, (.pointer p17)), (7, (.pointer (some ⟨k25, 0, none⟩))), (9, (.string s31)), (39, (.slice a2 n3 c4)), (40, (.int .i64 ((n3 : Nat)))), (41, (.int .i64 (x.1)))] e) (fun x => x.2) ((0), m307) ⟨h0, ⟨rfl, rfl, rfl, rfl, rfl, rfl, rfl, rfl, trivial⟩⟩ ?_; clear h0
    rintro ⟨i304, m306⟩ e h305 ⟨hJ, hag⟩ ih308
    have s := s i304 m306 h305 hJ; clear hJ
    refine Run.env hag ?_; clear hag
    refine au 2 rfl ?_
    refine zt s rfl rfl rfl binI_lss_t binI_lss_f (fun s => ?_) fun s => ?_
    ·refine au 8 rfl ?_
     obtain ⟨A310, e311, hi0, hi1, s⟩ := s
     refine zg rfl (sem_indexAddrS A310 n3 c4 .i64 (i304) (congrArg (fun a => Value.slice a n3 c4) e311) rfl TF.slc_79 hi0 hi1 ?_)
     obtain ⟨i312, i313, i314, i315, hl, s⟩ := s
     refine zn hl rfl rfl TF.agg_81 TF.sz_81 rfl ?_
     refine zal s rfl TF.zero_81 rfl fun k316 h317 s => ?_
     refine zsn s rfl rfl rfl TF.sz_81 rfl fun h318 s => ?_
     refine au 6 rfl ?_
     refine zl s rfl rfl TF.agg_72 fun p319 s => ?_
     obtain ⟨i320, i321, i322, i323, hl, s⟩ := s
     refine zn hl rfl rfl TF.agg_81 TF.sz_81 rfl ?_
     refine zcall s rfl rfl TF.goes_46 ?_
     rintro _ h324 ⟨b325, rfl, s⟩
     cases b325
     ·replace s := s.2 rfl
      refine au 5 rfl ?_
      refine zs1 s rfl rfl rfl rfl TF.sz_4 fun h326 s => ?_
      refine au 1 rfl ?_
      obtain ⟨b327, hl0, s⟩ := s
      exact zr (⟨⟨k8, 0, none⟩, (.bool b327), rfl, loadH1 TF.agg_4 hl0, s.imp fun _ q => ⟨_, rfl, q⟩⟩)
     ·replace s := s.1 rfl
      refine au 9 rfl ?_
      obtain ⟨J333, m331, h0, s⟩ := s
      refine Run.of_fin (h0.imp fun h' h0 => ?_)
      refine Run.loop (σ := Int × Nat) (fun x e h => J333 x.1 x.2 h ∧ Agree [(4, (.pointer (some ⟨k8, 0, none⟩))), (5, (.pointer p16)), (6, (.pointer p17)), (7, (.pointer (some ⟨k25, 0, none⟩))), (9, (.string s31)), (39, (.slice a2 n3 c4)), (40, (.int .i64 ((n3 : Nat)))), (41, (.int .i64 (i304))), (51, (.int .i64 (x.1)))] e) (fun x => x.2) ((0), m331) ⟨h0, ⟨rfl, rfl, rfl, rfl, rfl, rfl, rfl, rfl, rfl, trivial⟩⟩ ?_; clear h0
      rintro ⟨i328, m330⟩ e h329 ⟨hJ, hag⟩ ih332
      have s := s i328 m330 h329 hJ; clear hJ
      refine Run.env hag ?_; clear hag
      refine au 2 rfl ?_
      refine zt s rfl rfl rfl binI_lss_t binI_lss_f (fun s => ?_) fun s => ?_
      ·refine au 16 rfl ?_
       refine zcall s rfl rfl TF.goes_23 ?_
       rintro _ h334 ⟨b335, s336, b337, rfl, s⟩
       refine au 3 rfl ?_
       refine zal s rfl TF.zero_41 rfl fun k338 h339 s => ?_
       refine zsn s rfl rfl rfl TF.sz_41 rfl fun h340 s => ?_
       refine au 3 rfl ?_
       refine Run.drawM (fun h' => h' = h340) [] ⟨[0, 0, 0, 2, 8, 20, 32, 65, 128, 256, 256, 256, 1280, 4352, 10496, 16640, 33536, 65792], [262143, 262143, 262143, 262141, 262135, 262123, 262111, 262078, 262015, 261887, 261887, 261887, 260863, 257791, 251647, 245503, 228607, 196351], [0, 0, 0, 0, 0, 0, 0, 0, 0, 0, 0, 0, 0, 0, 0, 0, 0, 0], 0⟩ (.q 0 (.q 1 (.q 2 (.q 3 (.q 4 (.q 5 (.q 6 (.q 7 (.q 8 (.q 9 (.q 10 (.q 11 (.q 12 (.q 13 (.q 14 (.q 15 (.q 16 (.q 17 .nil)))))))))))))))))) TF.mixed (by kernel_rfl) rfl ?_
       obtain ⟨b341, s342, hl, s⟩ := s
       refine zqe rfl (sem_loadN ⟨k338, 0, none⟩ [(.bool b341), (.string s342)] rfl TF.agg_41 TF.sz_41 hl ⟨rfl, rfl⟩) ?_
       obtain ⟨p343, hl, s⟩ := s
       refine zqe rfl (sem_load1 ⟨k25, 0, none⟩ ((.pointer p343)) rfl TF.agg_72 hl ⟨rfl, rfl⟩) ?_
       refine auT 1 rfl ?_
       obtain ⟨A344, e345, s⟩ := s
       refine zqe rfl (sem_nilCheck A344 (congrArg Value.pointer e345) ⟨rfl, rfl⟩) ?_
       refine auT 1 rfl ?_
       obtain ⟨hi0, hi1, s⟩ := s
       refine zqe rfl (sem_indexAddrA (Addr.add A344 12) .i64 (i328) rfl rfl TF.arr_77 hi0 hi1 ⟨rfl, rfl⟩) ?_
       obtain ⟨b346, s347, hl, s⟩ := s
       refine zqe rfl (sem_loadN (Addr.add (Addr.add A344 12) (Int.toNat (i328) * 2)) [(.bool b346), (.string s347)] rfl TF.agg_76 TF.sz_76 hl ⟨rfl, rfl⟩) ?_
       by_cases hb348 : eqL [(.bool b341), (.string s342)] [(.bool b346), (.string s347)] = true
       ·replace s := s.1 hb348
        refine zqe rfl (sem_aggEq [(.bool b341), (.string s342)] [(.bool b346), (.string s347)] _ (false) (.inr rfl) rfl rfl TF.agg_76 TF.flat_76 TF.eqg_76 ⟨⟨_, rfl⟩, ⟨_, rfl⟩, trivial⟩ ⟨⟨_, rfl⟩, ⟨_, rfl⟩, trivial⟩ (eqLT_neq hb348) ⟨rfl, rfl⟩) ?_
        refine auT 2 rfl ?_
        obtain ⟨p349, hl, s⟩ := s
        refine zqe rfl (sem_load1 ⟨k25, 0, none⟩ ((.pointer p349)) rfl TF.agg_72 hl ⟨rfl, rfl⟩) ?_
        refine auT 1 rfl ?_
        obtain ⟨A350, e351, s⟩ := s
        refine zqe rfl (sem_nilCheck A350 (congrArg Value.pointer e351) ⟨rfl, rfl⟩) ?_
        refine auT 1 rfl ?_
        obtain ⟨hi0, hi1, s⟩ := s
        refine zqe rfl (sem_indexAddrA (Addr.add A350 24) .i64 (i328) rfl rfl TF.arr_84 hi0 hi1 ⟨rfl, rfl⟩) ?_
        obtain ⟨b352, hl, s⟩ := s
        refine zqe rfl (sem_load1 (Addr.add (Addr.add A350 24) (Int.toNat (i328) * 1)) ((.bool b352)) rfl TF.agg_4 hl ⟨rfl, rfl⟩) ?_
        by_cases hb353 : b337 = b352
        ·replace s := s.1 hb353
         refine zqe rfl (sem_boolEqT b337 b352 (.inr rfl) false rfl rfl TF.bool_4 hb353 rfl ⟨rfl, rfl⟩) ?_
         refine auT 1 rfl ?_
         refine au 7 rfl ?_
         exact Run.of_fin (s.imp fun h' ⟨m', hm, s⟩ => ih332 ((IntKind.wrap .i64 ((i328) + (1))), m') _ _ ⟨s, ⟨rfl, rfl, rfl, rfl, rfl, rfl, rfl, rfl, rfl, trivial⟩⟩ hm)
        ·replace s := s.2 hb353
         refine zqe rfl (sem_boolEqF b337 b352 (.inr rfl) true rfl rfl TF.bool_4 hb353 rfl ⟨rfl, rfl⟩) ?_
         refine auT 1 rfl ?_
         refine au 3 rfl ?_
         refine zs1 s rfl rfl rfl rfl TF.sz_4 fun h354 s => ?_
         refine au 1 rfl ?_
         obtain ⟨b355, hl0, s⟩ := s
         exact zr (⟨⟨k8, 0, none⟩, (.bool b355), rfl, loadH1 TF.agg_4 hl0, s.imp fun _ q => ⟨_, rfl, q⟩⟩)
       ·replace s := s.2 hb348
        refine zqe rfl (sem_aggEq [(.bool b341), (.string s342)] [(.bool b346), (.string s347)] _ (true) (.inr rfl) rfl rfl TF.agg_76 TF.flat_76 TF.eqg_76 ⟨⟨_, rfl⟩, ⟨_, rfl⟩, trivial⟩ ⟨⟨_, rfl⟩, ⟨_, rfl⟩, trivial⟩ (eqLF_neq hb348) ⟨rfl, rfl⟩) ?_
        refine auT 10 rfl ?_
        refine au 3 rfl ?_
        refine zs1 s rfl rfl rfl rfl TF.sz_4 fun h356 s => ?_
        refine au 1 rfl ?_
        obtain ⟨b357, hl0, s⟩ := s
        exact zr (⟨⟨k8, 0, none⟩, (.bool b357), rfl, loadH1 TF.agg_4 hl0, s.imp fun _ q => ⟨_, rfl, q⟩⟩)
      ·refine au 9 rfl ?_
       exact Run.of_fin (s.imp fun h' ⟨m', hm, s⟩ => ih308 ((IntKind.wrap .i64 ((i304) + (1))), m') _ _ ⟨s, ⟨rfl, rfl, rfl, rfl, rfl, rfl, rfl, rfl, trivial⟩⟩ hm)
    ·refine au 4 rfl ?_
     exact Run.of_fin (s.imp fun h' s => j32 _ _ ⟨⟨rfl, rfl, rfl, rfl, rfl, trivial⟩, s⟩)
   refine au 6 rfl ?_
   refine zg rfl (sem_lenSl a2 n3 c4 rfl TF.sl_79 ?_)
   refine zt s rfl rfl rfl binI_gtr_t binI_gtr_f (fun s => ?_) fun s => ?_
   ·refine au 5 rfl ?_
    refine zs1 s rfl rfl rfl rfl TF.sz_4 fun h358 s => ?_
    refine au 1 rfl ?_
    obtain ⟨b359, hl0, s⟩ := s
    exact zr (⟨⟨k8, 0, none⟩, (.bool b359), rfl, loadH1 TF.agg_4 hl0, s.imp fun _ q => ⟨_, rfl, q⟩⟩)
   ·refine au 4 rfl ?_
    exact Run.of_fin (s.imp fun h' s => j28 _ _ ⟨⟨rfl, rfl, rfl, rfl, rfl, trivial⟩, s⟩)
theorem C_tome_New.of {B : RO} {h : Heap} {Q : Option Addr → Heap → Prop} (s : S_tome_New B h Q) : C_tome_New B h Q := by
 refine zspec Try.func15 [ResultVar.tmp 0] rfl rfl rfl rfl rfl ?_
 refine au 6 rfl ?_
 refine zg rfl (sem_buildSL [] [(.bool false), (.string ByteArray.empty)] TF.zero_41 TF.places_41 rfl rfl ?_)
 refine zcall s rfl rfl TF.goes_60 ?_
 rintro _ h2 ⟨p3, rfl, s⟩
 refine zg rfl (sem_buildSL [(0, (.pointer p3))] [(.pointer p3)] TF.zero_113 TF.places_113 rfl rfl ?_)
 refine zbn s rfl rfl rfl fun k4 h5 s => ?_
 refine au 2 rfl ?_
 exact zr (s.imp fun _ q => ⟨_, rfl, q⟩)
theorem C_sheet_Sheet_Create.of {B : RO} {p1 : Option Addr} {p2 : Option Addr} {i3 : Int} {h : Heap} {Q : Bool → Heap → Prop} (s : S_sheet_Sheet_Create B p1 p2 i3 h Q) : C_sheet_Sheet_Create B p1 p2 i3 h Q := by
 refine zspec Try.func22 [ResultVar.tmp 6] rfl rfl rfl rfl rfl ?_
 refine au 9 rfl ?_
 refine zcall s rfl rfl TF.goes_23 ?_
 rintro _ h5 ⟨b6, s7, b8, rfl, s⟩
 refine au 3 rfl ?_
 refine zal s rfl TF.zero_41 rfl fun k9 h10 s => ?_
 refine zsn s rfl rfl rfl TF.sz_41 rfl fun h11 s => ?_
 refine au 7 rfl ?_
 obtain ⟨b12, s13, hl, s⟩ := s
 refine zn hl rfl rfl TF.agg_41 TF.sz_41 rfl ?_
 refine zcall s rfl rfl TF.goes_68 ?_
 rintro _ h14 ⟨b15, s16, rfl, s⟩
 refine zcall s rfl rfl TF.goes_67 ?_
 rintro _ h17 ⟨b18, rfl, s⟩
 refine au 2 rfl ?_
 exact zr (s.imp fun _ q => ⟨_, rfl, q⟩)
theorem C_sheet_Sheet_Get.of {B : RO} {p1 : Option Addr} {p2 : Option Addr} {i3 : Int} {h : Heap} {Q : Bool → ByteArray → Bool → Heap → Prop} (s : S_sheet_Sheet_Get B p1 p2 i3 h Q) : C_sheet_Sheet_Get B p1 p2 i3 h Q := by
 refine zspec Try.func23 [ResultVar.cell 6 41, ResultVar.tmp 7] rfl rfl rfl rfl rfl ?_
 refine au 2 rfl ?_
 refine zal s rfl TF.zero_41 rfl fun k7 h8 s => ?_
 refine au 2 rfl ?_
 refine Run.seqJ (fun e h10 => Agree [(1, (.pointer p2)), (2, (.int .i64 (i3))), (6, (.pointer (some ⟨k7, 0, none⟩)))] e ∧ S_sheet_Sheet_Get_J1 B p2 i3 k7 h10 Q) ?_ fun j9 => ?_
 ·rintro e h10 ⟨hag, s⟩
  refine Run.env hag ?_; clear hag
  refine au 4 rfl ?_
  refine zcall s rfl rfl TF.goes_49 ?_
  rintro _ h11 ⟨b12, s13, i14, rfl, s⟩
  refine au 3 rfl ?_
  refine zal s rfl TF.zero_41 rfl fun k15 h16 s => ?_
  refine zsn s rfl rfl rfl TF.sz_41 rfl fun h17 s => ?_
  refine au 4 rfl ?_
  obtain ⟨b18, s19, hl, s⟩ := s
  refine zn hl rfl rfl TF.agg_41 TF.sz_41 rfl ?_
  refine zsn s rfl rfl rfl TF.sz_41 rfl fun h20 s => ?_
  refine au 2 rfl ?_
  obtain ⟨b21, s22, hl0, s⟩ := s
  exact zr (⟨⟨k7, 0, none⟩, (.agg #[(.bool b21), (.string s22)]), rfl, loadHN TF.agg_41 TF.sz_41 hl0, s.imp fun _ q => ⟨_, _, _, rfl, q⟩⟩)
 refine au 3 rfl ?_
 by_cases hb23 : p1 = none
 ·replace s := s.1 hb23
  refine zg rfl (sem_ptrNilT p1 (.inr rfl) false rfl rfl TF.ptr_28 hb23 rfl ?_)
  refine au 3 rfl ?_
  exact Run.of_fin (s.imp fun h' s => j9 _ _ ⟨⟨rfl, rfl, rfl, trivial⟩, s⟩)
 ·replace s := s.2 hb23
  refine zg rfl (sem_ptrNilF p1 (.inr rfl) true rfl rfl TF.ptr_28 hb23 rfl ?_)
  refine au 5 rfl ?_
  refine znil s rfl rfl fun A24 s => ?_
  refine au 1 rfl ?_
  refine zl s rfl rfl TF.agg_95 fun p26 s => ?_
  refine au 1 rfl ?_
  refine zcall s rfl rfl TF.goes_69 ?_
  rintro _ h27 ⟨b28, s29, b30, rfl, s⟩
  refine au 2 rfl ?_
  cases b30
  ·replace s := s.2 rfl
   refine au 1 rfl ?_
   refine zal s rfl TF.zero_41 rfl fun k31 h32 s => ?_
   refine zsn s rfl rfl rfl TF.sz_41 rfl fun h33 s => ?_
   refine au 8 rfl ?_
   exact Run.of_fin (s.imp fun h' s => j9 _ _ ⟨⟨rfl, rfl, rfl, trivial⟩, s⟩)
  ·replace s := s.1 rfl
   refine au 1 rfl ?_
   refine zal s rfl TF.zero_41 rfl fun k34 h35 s => ?_
   refine zsn s rfl rfl rfl TF.sz_41 rfl fun h36 s => ?_
   refine au 9 rfl ?_
   obtain ⟨b37, s38, hl, s⟩ := s
   refine zn hl rfl rfl TF.agg_41 TF.sz_41 rfl ?_
   refine zsn s rfl rfl rfl TF.sz_41 rfl fun h39 s => ?_
   refine au 2 rfl ?_
   obtain ⟨b40, s41, hl0, s⟩ := s
   exact zr (⟨⟨k7, 0, none⟩, (.agg #[(.bool b40), (.string s41)]), rfl, loadHN TF.agg_41 TF.sz_41 hl0, s.imp fun _ q => ⟨_, _, _, rfl, q⟩⟩)
theorem C_countermandlaw14_alive.of {B : RO} {h : Heap} {Q : Bool → Heap → Prop} (s : S_countermandlaw14_alive B h Q) : C_countermandlaw14_alive B h Q := by
 refine zspec Try.func42 [ResultVar.tmp 0] rfl rfl rfl rfl rfl ?_
 refine au 6 rfl ?_
 refine zcall s rfl rfl TF.goes_61 ?_
 rintro _ h2 ⟨p3, rfl, s⟩
 refine zcall s rfl rfl TF.goes_15 ?_
 rintro _ h4 ⟨p5, rfl, s⟩
 refine au 3 rfl ?_
 refine Run.seqJ (fun e h7 => Agree [(1, (.pointer p3)), (2, (.pointer p5))] e ∧ S_countermandlaw14_alive_J1 B p3 p5 h7 Q) ?_ fun j6 => ?_
 ·rintro e h7 ⟨hag, s⟩
  refine Run.env hag ?_; clear hag
  refine au 4 rfl ?_
  refine zcall s rfl rfl TF.goes_23 ?_
  rintro _ h8 ⟨b9, s10, b11, rfl, s⟩
  refine au 2 rfl ?_
  cases b11
  ·replace s := s.2 rfl
   refine au 1 rfl ?_
   refine zal s rfl TF.zero_41 rfl fun k12 h13 s => ?_
   refine zsn s rfl rfl rfl TF.sz_41 rfl fun h14 s => ?_
   refine au 6 rfl ?_
   refine zcall s rfl rfl TF.goes_23 ?_
   rintro _ h15 ⟨b16, s17, b18, rfl, s⟩
   refine au 3 rfl ?_
   refine zal s rfl TF.zero_41 rfl fun k19 h20 s => ?_
   refine zsn s rfl rfl rfl TF.sz_41 rfl fun h21 s => ?_
   refine au 5 rfl ?_
   refine zl s rfl rfl TF.agg_4 fun b22 s => ?_
   cases b22
   ·replace s := s.2 rfl
    refine au 10 rfl ?_
    exact zr (s.imp fun _ q => ⟨_, rfl, q⟩)
   ·replace s := s.1 rfl
    refine au 10 rfl ?_
    exact zr (s.imp fun _ q => ⟨_, rfl, q⟩)
  ·replace s := s.1 rfl
   refine au 1 rfl ?_
   refine zal s rfl TF.zero_41 rfl fun k23 h24 s => ?_
   refine zsn s rfl rfl rfl TF.sz_41 rfl fun h25 s => ?_
   refine au 6 rfl ?_
   refine zcall s rfl rfl TF.goes_23 ?_
   rintro _ h26 ⟨b27, s28, b29, rfl, s⟩
   refine au 3 rfl ?_
   refine zal s rfl TF.zero_41 rfl fun k30 h31 s => ?_
   refine zsn s rfl rfl rfl TF.sz_41 rfl fun h32 s => ?_
   refine au 5 rfl ?_
   refine zl s rfl rfl TF.agg_4 fun b33 s => ?_
   cases b33
   ·replace s := s.2 rfl
    refine au 10 rfl ?_
    exact zr (s.imp fun _ q => ⟨_, rfl, q⟩)
   ·replace s := s.1 rfl
    refine au 5 rfl ?_
    refine zl s rfl rfl TF.agg_4 fun b34 s => ?_
    refine au 4 rfl ?_
    exact zr (s.imp fun _ q => ⟨_, rfl, q⟩)
 refine au 4 rfl ?_
 refine zcall s rfl rfl TF.goes_22 ?_
 rintro _ h35 ⟨b36, rfl, s⟩
 cases b36
 ·replace s := s.2 rfl
  refine au 13 rfl ?_
  exact zr (s.imp fun _ q => ⟨_, rfl, q⟩)
 ·replace s := s.1 rfl
  refine au 4 rfl ?_
  refine zcall s rfl rfl TF.goes_45 ?_
  rintro _ h37 ⟨b38, rfl, s⟩
  cases b38
  ·replace s := s.2 rfl
   refine au 8 rfl ?_
   exact zr (s.imp fun _ q => ⟨_, rfl, q⟩)
  ·replace s := s.1 rfl
   refine au 5 rfl ?_
   exact Run.of_fin (s.imp fun h' s => j6 _ _ ⟨⟨rfl, rfl, trivial⟩, s⟩)
theorem C_countermandlaw14_build.of {B : RO} {l1 : List Value} {h : Heap} {Q : Option Addr → Option Addr → Option Addr → Bool → Heap → Prop} (s : S_countermandlaw14_build B l1 h Q) : C_countermandlaw14_build B l1 h Q := by
 refine zspec Try.func43 [ResultVar.tmp 2, ResultVar.tmp 3, ResultVar.tmp 4, ResultVar.tmp 5] rfl rfl rfl rfl rfl ?_
 refine au 2 rfl ?_
 refine zg rfl (sem_boxNN l1 rfl (fun k6 hb1 hb2 h7 hb3 => ?_))
 have s := s k6 hb1 hb2 h7 hb3
 refine au 7 rfl ?_
 refine zcall s rfl rfl TF.goes_15 ?_
 rintro _ h8 ⟨p9, rfl, s⟩
 refine au 4 rfl ?_
 refine zg rfl (sem_buildSL [] [(.bool false), (.string ByteArray.empty), (.bool false), (.string ByteArray.empty), (.bool false), (.string ByteArray.empty), (.bool false), (.string ByteArray.empty), (.bool false), (.string ByteArray.empty), (.bool false), (.string ByteArray.empty), (.bool false), (.string ByteArray.empty), (.bool false), (.string ByteArray.empty), (.bool false), (.string ByteArray.empty), (.bool false), (.string ByteArray.empty), (.bool false), (.string ByteArray.empty), (.bool false), (.string ByteArray.empty), (.bool false), (.bool false), (.bool false), (.bool false), (.bool false), (.bool false)] TF.zero_86 TF.places_86 rfl rfl ?_)
 refine zbn s rfl rfl rfl fun k10 h11 s => ?_
 refine au 2 rfl ?_
 refine Run.seqJ (fun e h13 => Agree [(6, (.pointer p9)), (7, (.pointer (some ⟨k10, 0, none⟩)))] e ∧ S_countermandlaw14_build_J1 B p9 k10 h13 Q) ?_ fun j12 => ?_
 ·rintro e h13 ⟨hag, s⟩
  refine Run.env hag ?_; clear hag
  refine au 3 rfl ?_
  refine zcall s rfl rfl TF.goes_61 ?_
  rintro _ h14 ⟨p15, rfl, s⟩
  refine au 6 rfl ?_
  exact zr (s.imp fun _ q => ⟨_, _, _, _, rfl, q⟩)
 refine au 2 rfl ?_
 obtain ⟨l16, hln, hl, s⟩ := s
 refine zg rfl (sem_loadN ⟨k6, 0, none⟩ l16 rfl TF.agg_71 (TF.sz_71.trans (congrArg some hln.symm)) hl ?_)
 refine au 3 rfl ?_
 obtain ⟨J22, m20, h0, s⟩ := s
 refine Run.of_fin (h0.imp fun h' h0 => ?_)
 refine Run.loop (σ := Int × Nat) (fun x e h => J22 x.1 x.2 h ∧ Agree [(6, (.pointer p9)), (7, (.pointer (some ⟨k10, 0, none⟩))), (13, (.agg (List.toArray l16))), (14, (.int .i64 (x.1)))] e) (fun x => x.2) ((0), m20) ⟨h0, ⟨rfl, rfl, rfl, rfl, trivial⟩⟩ ?_; clear h0
 rintro ⟨i17, m19⟩ e h18 ⟨hJ, hag⟩ ih21
 have s := s i17 m19 h18 hJ; clear hJ
 refine Run.env hag ?_; clear hag
 refine au 2 rfl ?_
 refine zt s rfl rfl rfl binI_lss_t binI_lss_f (fun s => ?_) fun s => ?_
 ·refine au 9 rfl ?_
  obtain ⟨hi0, hi1, b23, s24, hix, s⟩ := s
  refine zg rfl (sem_indexArr (List.toArray l16) (.agg #[(.bool b23), (.string s24)]) .i64 (i17) rfl rfl TF.arr_71 hi0 hi1 (congrArg (fun a => some (Value.agg a)) hix) ?_)
  refine zal s rfl TF.zero_41 rfl fun k25 h26 s => ?_
  refine au 1 rfl ?_
  refine zsn s rfl rfl rfl TF.sz_41 rfl fun h27 s => ?_
  refine au 6 rfl ?_
  obtain ⟨b28, s29, hl, s⟩ := s
  refine zn hl rfl rfl TF.agg_41 TF.sz_41 rfl ?_
  refine au 1 rfl ?_
  refine zcall s rfl rfl TF.goes_85 ?_
  rintro _ h30 ⟨b31, rfl, s⟩
  cases b31
  ·replace s := s.2 rfl
   refine au 10 rfl ?_
   exact zr (s.imp fun _ q => ⟨_, _, _, _, rfl, q⟩)
  ·replace s := s.1 rfl
   refine au 5 rfl ?_
   refine Run.drawM (fun h' => h' = h30) [6] ⟨[0, 0, 0, 1, 8, 23, 39], [127, 127, 127, 126, 119, 109, 91], [0, 0, 0, 1, 9, 31, 63], 64⟩ (.q 0 (.q 1 (.q 2 (.q 3 (.q 4 (.q 5 (.x 6 .nil .no))))))) TF.mixed (by kernel_rfl) rfl ?_
   refine auT 2 rfl ?_
   obtain ⟨b32, s33, hl, s⟩ := s
   refine zqe rfl (sem_loadN ⟨k25, 0, none⟩ [(.bool b32), (.string s33)] rfl TF.agg_41 TF.sz_41 hl ⟨rfl, rfl⟩) ?_
   refine auT 2 rfl ?_
   obtain ⟨hi0, hi1, s⟩ := s
   refine zqe rfl (sem_indexAddrA ⟨k10, 0, none⟩ .i64 (i17) rfl rfl TF.arr_77 hi0 hi1 ⟨rfl, rfl⟩) ?_
   obtain ⟨h34, hst, s⟩ := s
   refine ⟨zo0 rfl (sem_storeN (Addr.add ⟨k10, 0, none⟩ (Int.toNat (i17) * 2)) [(.bool b32), (.string s33)] h34 rfl rfl TF.sz_76 hst ?_), trivial⟩
   refine ⟨fun hz => Bool.noConfusion hz, ?_⟩
   refine Run.drawM (fun h' => h' = h34) [11] ⟨[0, 0, 0, 0, 4, 16, 40, 64, 1, 256, 767, 1279], [4095, 4095, 4095, 4095, 4091, 4079, 4055, 4031, 4094, 3839, 3581, 2943], [0, 0, 0, 0, 4, 20, 60, 124, 1, 257, 1023, 2047], 2048⟩ (.q 0 (.q 1 (.q 2 (.q 3 (.q 4 (.q 5 (.q 6 (.q 7 (.q 8 (.q 9 (.q 10 (.x 11 .nil .no)))))))))))) TF.mixed (by kernel_rfl) rfl ?_
   refine auT 6 rfl ?_
   obtain ⟨hi0, hi1, s⟩ := s
   refine zqe rfl (sem_indexAddrA ⟨k10, 0, none⟩ .i64 (i17) rfl rfl TF.arr_77 hi0 hi1 ⟨rfl, rfl⟩) ?_
   obtain ⟨b35, s36, hl, s⟩ := s
   refine zqe rfl (sem_loadN (Addr.add ⟨k10, 0, none⟩ (Int.toNat (i17) * 2)) [(.bool b35), (.string s36)] rfl TF.agg_76 TF.sz_76 hl ⟨rfl, rfl⟩) ?_
   refine auT 2 rfl ?_
   obtain ⟨hi0, hi1, s⟩ := s
   refine zqe rfl (sem_indexAddrA ⟨k10, 12, none⟩ .i64 (i17) rfl rfl TF.arr_77 hi0 hi1 ⟨rfl, rfl⟩) ?_
   obtain ⟨h37, hst, s⟩ := s
   refine ⟨zo0 rfl (sem_storeN (Addr.add ⟨k10, 12, none⟩ (Int.toNat (i17) * 2)) [(.bool b35), (.string s36)] h37 rfl rfl TF.sz_76 hst ?_), trivial⟩
   refine ⟨fun hz => Bool.noConfusion hz, ?_⟩
   refine au 5 rfl ?_
   exact Run.of_fin (s.imp fun h' ⟨m', hm, s⟩ => ih21 ((IntKind.wrap .i64 ((i17) + (1))), m') _ _ ⟨s, ⟨rfl, rfl, rfl, rfl, trivial⟩⟩ hm)
 ·refine au 4 rfl ?_
  exact Run.of_fin (s.imp fun h' s => j12 _ _ ⟨⟨rfl, rfl, trivial⟩, s⟩)
theorem C_countermandref14_Is.of {B : RO} {i1 : Int} {h : Heap} {Q : Bool → Heap → Prop} (s : S_countermandref14_Is B i1 h Q) : C_countermandref14_Is B i1 h Q := by
 refine zspec Try.func44 [ResultVar.tmp 2] rfl rfl rfl rfl rfl ?_
 refine au 7 rfl ?_
 refine zt s rfl rfl rfl binI_geq_t binI_geq_f (fun s => ?_) fun s => ?_
 ·refine au 6 rfl ?_
  exact zr (s.imp fun _ q => ⟨_, rfl, q⟩)
 ·refine au 6 rfl ?_
  exact zr (s.imp fun _ q => ⟨_, rfl, q⟩)
theorem C_sheet_Sheet_Rename.of {B : RO} {p1 : Option Addr} {p2 : Option Addr} {i3 : Int} {i4 : Int} {h : Heap} {Q : Bool → Heap → Prop} (s : S_sheet_Sheet_Rename B p1 p2 i3 i4 h Q) : C_sheet_Sheet_Rename B p1 p2 i3 i4 h Q := by
 refine zspec Try.func45 [ResultVar.tmp 8] rfl rfl rfl rfl rfl ?_
 refine au 9 rfl ?_
 refine zcall s rfl rfl TF.goes_23 ?_
 rintro _ h6 ⟨b7, s8, b9, rfl, s⟩
 refine au 3 rfl ?_
 refine zal s rfl TF.zero_41 rfl fun k10 h11 s => ?_
 refine zsn s rfl rfl rfl TF.sz_41 rfl fun h12 s => ?_
 refine au 2 rfl ?_
 refine Run.seqJ (fun e h14 => Agree [(0, (.pointer p1)), (1, (.pointer p2)), (2, (.int .i64 (i3))), (3, (.int .i64 (i4))), (9, (.pointer (some ⟨k10, 0, none⟩)))] e ∧ S_sheet_Sheet_Rename_J1 B p1 p2 i3 i4 k10 h14 Q) ?_ fun j13 => ?_
 ·rintro e h14 ⟨hag, s⟩
  refine Run.env hag ?_; clear hag
  refine au 5 rfl ?_
  obtain ⟨b15, s16, hl, s⟩ := s
  refine zn hl rfl rfl TF.agg_41 TF.sz_41 rfl ?_
  refine zcall s rfl rfl TF.goes_67 ?_
  rintro _ h17 ⟨b18, rfl, s⟩
  refine au 6 rfl ?_
  refine zg rfl (sem_buildSL [] [(.bool false), (.string ByteArray.empty)] TF.zero_41 TF.places_41 rfl rfl ?_)
  refine zcall s rfl rfl TF.goes_67 ?_
  rintro _ h19 ⟨b20, rfl, s⟩
  refine au 2 rfl ?_
  exact zr (s.imp fun _ q => ⟨_, rfl, q⟩)
 refine au 1 rfl ?_
 refine Run.seqJ (fun e h23 => ∃ b22 : Bool, Agree [(0, (.pointer p1)), (1, (.pointer p2)), (2, (.int .i64 (i3))), (3, (.int .i64 (i4))), (9, (.pointer (some ⟨k10, 0, none⟩))), (18, (.bool b22))] e ∧ S_sheet_Sheet_Rename_J2 B p1 p2 i3 i4 k10 b22 h23 Q) ?_ fun j21 => ?_
 ·rintro e h23 ⟨b22, hag, s⟩
  refine Run.env hag ?_; clear hag
  cases b22
  ·replace s := s.2 rfl
   refine au 4 rfl ?_
   refine zl s rfl rfl TF.agg_4 fun b24 s => ?_
   cases b24
   ·replace s := s.2 rfl
    refine au 13 rfl ?_
    exact zr (s.imp fun _ q => ⟨_, rfl, q⟩)
   ·replace s := s.1 rfl
    refine au 4 rfl ?_
    refine zt s rfl rfl rfl binI_eql_t binI_eql_f (fun s => ?_) fun s => ?_
    ·refine au 8 rfl ?_
     exact zr (s.imp fun _ q => ⟨_, rfl, q⟩)
    ·refine au 6 rfl ?_
     exact Run.of_fin (s.imp fun h' s => j13 _ _ ⟨⟨rfl, rfl, rfl, rfl, rfl, trivial⟩, s⟩)
  ·replace s := s.1 rfl
   refine au 5 rfl ?_
   exact zr (s.imp fun _ q => ⟨_, rfl, q⟩)
 refine au 2 rfl ?_
 by_cases hb25 : p1 = none
 ·replace s := s.1 hb25
  refine zg rfl (sem_ptrNilT p1 (.inl rfl) true rfl rfl TF.ptr_28 hb25 rfl ?_)
  refine au 18 rfl ?_
  exact Run.of_fin (s.imp fun h' s => j21 _ _ ⟨(true), ⟨rfl, rfl, rfl, rfl, rfl, rfl, trivial⟩, s⟩)
 ·replace s := s.2 hb25
  refine zg rfl (sem_ptrNilF p1 (.inl rfl) false rfl rfl TF.ptr_28 hb25 rfl ?_)
  refine au 2 rfl ?_
  refine zt s rfl rfl rfl binI_lss_t binI_lss_f (fun s => ?_) fun s => ?_
  ·refine au 15 rfl ?_
   exact Run.of_fin (s.imp fun h' s => j21 _ _ ⟨(true), ⟨rfl, rfl, rfl, rfl, rfl, rfl, trivial⟩, s⟩)
  ·refine au 3 rfl ?_
   refine zt s rfl rfl rfl binI_geq_t binI_geq_f (fun s => ?_) fun s => ?_
   ·refine au 11 rfl ?_
    exact Run.of_fin (s.imp fun h' s => j21 _ _ ⟨(true), ⟨rfl, rfl, rfl, rfl, rfl, rfl, trivial⟩, s⟩)
   ·refine au 3 rfl ?_
    refine zt s rfl rfl rfl binI_lss_t binI_lss_f (fun s => ?_) fun s => ?_
    ·refine au 7 rfl ?_
     exact Run.of_fin (s.imp fun h' s => j21 _ _ ⟨(true), ⟨rfl, rfl, rfl, rfl, rfl, rfl, trivial⟩, s⟩)
    ·refine au 3 rfl ?_
     refine zt s rfl rfl rfl binI_geq_t binI_geq_f (fun s => ?_) fun s => ?_
     ·refine au 3 rfl ?_
      exact Run.of_fin (s.imp fun h' s => j21 _ _ ⟨(true), ⟨rfl, rfl, rfl, rfl, rfl, rfl, trivial⟩, s⟩)
     ·refine au 3 rfl ?_
      exact Run.of_fin (s.imp fun h' s => j21 _ _ ⟨(false), ⟨rfl, rfl, rfl, rfl, rfl, rfl, trivial⟩, s⟩)
theorem C_countermandlaw14_does.of {B : RO} {p1 : Option Addr} {p2 : Option Addr} {p3 : Option Addr} {i4 : Int} {i5 : Int} {i6 : Int} {i7 : Int} {h : Heap} {Q : Bool → Heap → Prop} (s : S_countermandlaw14_does B p1 p2 p3 i4 i5 i6 i7 h Q) : C_countermandlaw14_does B p1 p2 p3 i4 i5 i6 i7 h Q := by
 refine zspec Try.func46 [ResultVar.tmp 8] rfl rfl rfl rfl rfl ?_
 refine au 2 rfl ?_
 refine zbn s rfl rfl rfl fun k9 h10 s => ?_
 refine au 6 rfl ?_
 refine zl s rfl rfl TF.agg_3 fun i11 s => ?_
 refine au 4 rfl ?_
 refine zt s rfl rfl rfl binI_eql_t binI_eql_f (fun s => ?_) fun s => ?_
 ·refine au 4 rfl ?_
  obtain ⟨i15, hl, s⟩ := s
  have f16 := hl
  obtain ⟨i18, hl, s⟩ := s
  have f19 := hl
  obtain ⟨i21, hl, s⟩ := s
  have f22 := hl
  obtain ⟨i25, hl, s⟩ := s
  have f26 := hl
  obtain ⟨i28, hl, s⟩ := s
  have f29 := hl
  obtain ⟨i31, hl, s⟩ := s
  have f32 := hl
  refine Run.drawM (fun h' => cellH B h' ⟨k9, 1, none⟩ = some (.int .i64 (i15)) ∧ cellH B h' ⟨k9, 2, none⟩ = some (.int .i64 (i18)) ∧ cellH B h' ⟨k9, 3, none⟩ = some (.int .u8 (i21)) ∧ cellH B h' ⟨k9, 1, none⟩ = some (.int .i64 (i25)) ∧ cellH B h' ⟨k9, 2, none⟩ = some (.int .i64 (i28)) ∧ cellH B h' ⟨k9, 3, none⟩ = some (.int .u8 (i31)) ∧ True) [] ⟨[0, 0, 0, 4, 0, 16, 0, 64, 171, 0, 0, 1024, 0, 4096, 0, 16384, 43776, 65792, 262143], [524287, 524287, 524287, 524283, 524287, 524271, 524287, 524223, 524116, 524287, 524287, 523263, 524287, 520191, 524287, 507903, 480767, 458495, 393215], [0, 0, 0, 0, 0, 0, 0, 0, 0, 0, 0, 0, 0, 0, 0, 0, 0, 0, 0], 0⟩ (.q 0 (.q 1 (.q 2 (.q 3 (.q 4 (.q 5 (.q 6 (.q 7 (.q 9 (.q 10 (.q 11 (.q 12 (.q 13 (.q 14 (.q 15 (.x 8 (.x 16 (.q 17 (.q 18 .nil)) .no) .no)))))))))))))))) TF.mixed (by kernel_rfl) ⟨f16, f19, f22, f26, f29, f32, trivial⟩ ?_
  refine auT 3 rfl ?_
  refine zq rfl (fun _ hC => sem_load1 ⟨k9, 1, none⟩ ((.int .i64 (i15))) rfl TF.agg_3 hC.1 ⟨rfl, rfl⟩) ?_
  refine auT 1 rfl ?_
  refine zq rfl (fun _ hC => sem_load1 ⟨k9, 2, none⟩ ((.int .i64 (i18))) rfl TF.agg_3 hC.2.1 ⟨rfl, rfl⟩) ?_
  refine auT 1 rfl ?_
  refine zq rfl (fun _ hC => sem_load1 ⟨k9, 3, none⟩ ((.int .u8 (i21))) rfl TF.agg_5 hC.2.2.1 ⟨rfl, rfl⟩) ?_
  refine auT 2 rfl ?_
  refine zq rfl (fun _ hC => sem_load1 ⟨k9, 1, none⟩ ((.int .i64 (i25))) rfl TF.agg_3 hC.2.2.2.1 ⟨rfl, rfl⟩) ?_
  refine auT 1 rfl ?_
  refine zq rfl (fun _ hC => sem_load1 ⟨k9, 2, none⟩ ((.int .i64 (i28))) rfl TF.agg_3 hC.2.2.2.2.1 ⟨rfl, rfl⟩) ?_
  refine auT 1 rfl ?_
  refine zq rfl (fun _ hC => sem_load1 ⟨k9, 3, none⟩ ((.int .u8 (i31))) rfl TF.agg_5 hC.2.2.2.2.2.1 ⟨rfl, rfl⟩) ?_
  refine ⟨zo rfl (sem_callL [(.pointer p2), (.pointer p1), (.int .i64 (i15)), (.int .i64 (i18)), (.int .u8 (i21))] (TF.goes_54) rfl rfl (Spec.mono s fun v h33 hv => ?_)), trivial⟩
  obtain ⟨b34, rfl, s⟩ := hv
  obtain ⟨g35, g36, g37, g38, g39, g40, s⟩ := s
  refine ⟨fun _ => ⟨g35, g36, g37, g38, g39, g40, trivial⟩, ?_⟩
  refine ⟨zo rfl (sem_callL [(.pointer p3), (.int .i64 (i25)), (.int .i64 (i28)), (.int .u8 (i31))] (TF.goes_86) rfl rfl (Spec.mono s fun v h41 hv => ?_)), trivial⟩
  obtain ⟨b42, rfl, s⟩ := hv
  obtain ⟨g43, g44, g45, g46, g47, g48, s⟩ := s
  refine ⟨fun _ => ⟨g43, g44, g45, g46, g47, g48, trivial⟩, ?_⟩
  refine zq rfl (fun _ _ => sem_boolEqV b34 b42 (.inl rfl) ((decide (b34 = b42))) rfl rfl TF.bool_4 (boolEqV_eql _ _) ⟨rfl, rfl⟩) ?_
  refine auT 1 rfl ?_
  exact zr (s.imp fun _ q => ⟨_, rfl, q⟩)
 ·refine au 5 rfl ?_
  refine zt s rfl rfl rfl binI_eql_t binI_eql_f (fun s => ?_) fun s => ?_
  ·refine au 4 rfl ?_
   obtain ⟨i52, hl, s⟩ := s
   have f53 := hl
   obtain ⟨i55, hl, s⟩ := s
   have f56 := hl
   obtain ⟨i59, hl, s⟩ := s
   have f60 := hl
   obtain ⟨i62, hl, s⟩ := s
   have f63 := hl
   refine Run.drawM (fun h' => cellH B h' ⟨k9, 1, none⟩ = some (.int .i64 (i52)) ∧ cellH B h' ⟨k9, 2, none⟩ = some (.int .i64 (i55)) ∧ cellH B h' ⟨k9, 1, none⟩ = some (.int .i64 (i59)) ∧ cellH B h' ⟨k9, 2, none⟩ = some (.int .i64 (i62)) ∧ True) [] ⟨[0, 0, 0, 4, 0, 16, 43, 0, 0, 256, 0, 1024, 2752, 4160, 16383], [32767, 32767, 32767, 32763, 32767, 32751, 32724, 32767, 32767, 32511, 32767, 31743, 30079, 28607, 24575], [0, 0, 0, 0, 0, 0, 0, 0, 0, 0, 0, 0, 0, 0, 0], 0⟩ (.q 0 (.q 1 (.q 2 (.q 3 (.q 4 (.q 5 (.q 7 (.q 8 (.q 9 (.q 10 (.q 11 (.x 6 (.x 12 (.q 13 (.q 14 .nil)) .no) .no)))))))))))) TF.mixed (by kernel_rfl) ⟨f53, f56, f60, f63, trivial⟩ ?_
   refine auT 3 rfl ?_
   refine zq rfl (fun _ hC => sem_load1 ⟨k9, 1, none⟩ ((.int .i64 (i52))) rfl TF.agg_3 hC.1 ⟨rfl, rfl⟩) ?_
   refine auT 1 rfl ?_
   refine zq rfl (fun _ hC => sem_load1 ⟨k9, 2, none⟩ ((.int .i64 (i55))) rfl TF.agg_3 hC.2.1 ⟨rfl, rfl⟩) ?_
   refine auT 2 rfl ?_
   refine zq rfl (fun _ hC => sem_load1 ⟨k9, 1, none⟩ ((.int .i64 (i59))) rfl TF.agg_3 hC.2.2.1 ⟨rfl, rfl⟩) ?_
   refine auT 1 rfl ?_
   refine zq rfl (fun _ hC => sem_load1 ⟨k9, 2, none⟩ ((.int .i64 (i62))) rfl TF.agg_3 hC.2.2.2.1 ⟨rfl, rfl⟩) ?_
   refine ⟨zo rfl (sem_callL [(.pointer p2), (.pointer p1), (.int .i64 (i52)), (.int .i64 (i55))] (TF.goes_55) rfl rfl (Spec.mono s fun v h64 hv => ?_)), trivial⟩
   obtain ⟨b65, rfl, s⟩ := hv
   obtain ⟨g66, g67, g68, g69, s⟩ := s
   refine ⟨fun _ => ⟨g66, g67, g68, g69, trivial⟩, ?_⟩
   refine ⟨zo rfl (sem_callL [(.pointer p3), (.int .i64 (i59)), (.int .i64 (i62))] (TF.goes_87) rfl rfl (Spec.mono s fun v h70 hv => ?_)), trivial⟩
   obtain ⟨b71, rfl, s⟩ := hv
   obtain ⟨g72, g73, g74, g75, s⟩ := s
   refine ⟨fun _ => ⟨g72, g73, g74, g75, trivial⟩, ?_⟩
   refine zq rfl (fun _ _ => sem_boolEqV b65 b71 (.inl rfl) ((decide (b65 = b71))) rfl rfl TF.bool_4 (boolEqV_eql _ _) ⟨rfl, rfl⟩) ?_
   refine auT 1 rfl ?_
   exact zr (s.imp fun _ q => ⟨_, rfl, q⟩)
  ·refine au 5 rfl ?_
   refine zt s rfl rfl rfl binI_eql_t binI_eql_f (fun s => ?_) fun s => ?_
   ·refine au 4 rfl ?_
    obtain ⟨i79, hl, s⟩ := s
    have f80 := hl
    obtain ⟨i83, hl, s⟩ := s
    have f84 := hl
    refine Run.drawM (fun h' => cellH B h' ⟨k9, 1, none⟩ = some (.int .i64 (i79)) ∧ cellH B h' ⟨k9, 1, none⟩ = some (.int .i64 (i83)) ∧ True) [] ⟨[0, 0, 0, 4, 11, 0, 0, 64, 176, 272, 1023], [2047, 2047, 2047, 2043, 2036, 2047, 2047, 1983, 1887, 1775, 1535], [0, 0, 0, 0, 0, 0, 0, 0, 0, 0, 0], 0⟩ (.q 0 (.q 1 (.q 2 (.q 3 (.q 5 (.q 6 (.q 7 (.x 4 (.x 8 (.q 9 (.q 10 .nil)) .no) .no)))))))) TF.mixed (by kernel_rfl) ⟨f80, f84, trivial⟩ ?_
    refine auT 3 rfl ?_
    refine zq rfl (fun _ hC => sem_load1 ⟨k9, 1, none⟩ ((.int .i64 (i79))) rfl TF.agg_3 hC.1 ⟨rfl, rfl⟩) ?_
    refine auT 2 rfl ?_
    refine zq rfl (fun _ hC => sem_load1 ⟨k9, 1, none⟩ ((.int .i64 (i83))) rfl TF.agg_3 hC.2.1 ⟨rfl, rfl⟩) ?_
    refine ⟨zo rfl (sem_callL [(.pointer p2), (.pointer p1), (.int .i64 (i79))] (TF.goes_22) rfl rfl (Spec.mono s fun v h85 hv => ?_)), trivial⟩
    obtain ⟨b86, rfl, s⟩ := hv
    obtain ⟨g87, g88, s⟩ := s
    refine ⟨fun _ => ⟨g87, g88, trivial⟩, ?_⟩
    refine ⟨zo rfl (sem_callL [(.pointer p3), (.int .i64 (i83))] (TF.goes_88) rfl rfl (Spec.mono s fun v h89 hv => ?_)), trivial⟩
    obtain ⟨b90, rfl, s⟩ := hv
    obtain ⟨g91, g92, s⟩ := s
    refine ⟨fun _ => ⟨g91, g92, trivial⟩, ?_⟩
    refine zq rfl (fun _ _ => sem_boolEqV b86 b90 (.inl rfl) ((decide (b86 = b90))) rfl rfl TF.bool_4 (boolEqV_eql _ _) ⟨rfl, rfl⟩) ?_
    refine auT 1 rfl ?_
    exact zr (s.imp fun _ q => ⟨_, rfl, q⟩)
   ·refine au 5 rfl ?_
    refine zt s rfl rfl rfl binI_eql_t binI_eql_f (fun s => ?_) fun s => ?_
    ·refine au 4 rfl ?_
     obtain ⟨i96, hl, s⟩ := s
     have f97 := hl
     obtain ⟨i100, hl, s⟩ := s
     have f101 := hl
     refine Run.drawM (fun h' => cellH B h' ⟨k9, 1, none⟩ = some (.int .i64 (i96)) ∧ cellH B h' ⟨k9, 1, none⟩ = some (.int .i64 (i100)) ∧ True) [] ⟨[0, 0, 0, 4, 11, 0, 0, 64, 176, 272, 1023], [2047, 2047, 2047, 2043, 2036, 2047, 2047, 1983, 1887, 1775, 1535], [0, 0, 0, 0, 0, 0, 0, 0, 0, 0, 0], 0⟩ (.q 0 (.q 1 (.q 2 (.q 3 (.q 5 (.q 6 (.q 7 (.x 4 (.x 8 (.q 9 (.q 10 .nil)) .no) .no)))))))) TF.mixed (by kernel_rfl) ⟨f97, f101, trivial⟩ ?_
     refine auT 3 rfl ?_
     refine zq rfl (fun _ hC => sem_load1 ⟨k9, 1, none⟩ ((.int .i64 (i96))) rfl TF.agg_3 hC.1 ⟨rfl, rfl⟩) ?_
     refine auT 2 rfl ?_
     refine zq rfl (fun _ hC => sem_load1 ⟨k9, 1, none⟩ ((.int .i64 (i100))) rfl TF.agg_3 hC.2.1 ⟨rfl, rfl⟩) ?_
     refine ⟨zo rfl (sem_callL [(.pointer p2), (.pointer p1), (.int .i64 (i96))] (TF.goes_56) rfl rfl (Spec.mono s fun v h102 hv => ?_)), trivial⟩
     obtain ⟨b103, rfl, s⟩ := hv
     obtain ⟨g104, g105, s⟩ := s
     refine ⟨fun _ => ⟨g104, g105, trivial⟩, ?_⟩
     refine ⟨zo rfl (sem_callL [(.pointer p3), (.int .i64 (i100))] (TF.goes_89) rfl rfl (Spec.mono s fun v h106 hv => ?_)), trivial⟩
     obtain ⟨b107, rfl, s⟩ := hv
     obtain ⟨g108, g109, s⟩ := s
     refine ⟨fun _ => ⟨g108, g109, trivial⟩, ?_⟩
     refine zq rfl (fun _ _ => sem_boolEqV b103 b107 (.inl rfl) ((decide (b103 = b107))) rfl rfl TF.bool_4 (boolEqV_eql _ _) ⟨rfl, rfl⟩) ?_
     refine auT 1 rfl ?_
     exact zr (s.imp fun _ q => ⟨_, rfl, q⟩)
    ·refine au 5 rfl ?_
     refine zt s rfl rfl rfl binI_eql_t binI_eql_f (fun s => ?_) fun s => ?_
     ·refine au 4 rfl ?_
      obtain ⟨i113, hl, s⟩ := s
      have f114 := hl
      obtain ⟨i116, hl, s⟩ := s
      have f117 := hl
      obtain ⟨i120, hl, s⟩ := s
      have f121 := hl
      obtain ⟨i123, hl, s⟩ := s
      have f124 := hl
      refine Run.drawM (fun h' => cellH B h' ⟨k9, 1, none⟩ = some (.int .i64 (i113)) ∧ cellH B h' ⟨k9, 2, none⟩ = some (.int .i64 (i116)) ∧ cellH B h' ⟨k9, 1, none⟩ = some (.int .i64 (i120)) ∧ cellH B h' ⟨k9, 2, none⟩ = some (.int .i64 (i123)) ∧ True) [] ⟨[0, 0, 0, 4, 0, 16, 43, 0, 0, 256, 0, 1024, 2752, 4160, 16383], [32767, 32767, 32767, 32763, 32767, 32751, 32724, 32767, 32767, 32511, 32767, 31743, 30079, 28607, 24575], [0, 0, 0, 0, 0, 0, 0, 0, 0, 0, 0, 0, 0, 0, 0], 0⟩ (.q 0 (.q 1 (.q 2 (.q 3 (.q 4 (.q 5 (.q 7 (.q 8 (.q 9 (.q 10 (.q 11 (.x 6 (.x 12 (.q 13 (.q 14 .nil)) .no) .no)))))))))))) TF.mixed (by kernel_rfl) ⟨f114, f117, f121, f124, trivial⟩ ?_
      refine auT 3 rfl ?_
      refine zq rfl (fun _ hC => sem_load1 ⟨k9, 1, none⟩ ((.int .i64 (i113))) rfl TF.agg_3 hC.1 ⟨rfl, rfl⟩) ?_
      refine auT 1 rfl ?_
      refine zq rfl (fun _ hC => sem_load1 ⟨k9, 2, none⟩ ((.int .i64 (i116))) rfl TF.agg_3 hC.2.1 ⟨rfl, rfl⟩) ?_
      refine auT 2 rfl ?_
      refine zq rfl (fun _ hC => sem_load1 ⟨k9, 1, none⟩ ((.int .i64 (i120))) rfl TF.agg_3 hC.2.2.1 ⟨rfl, rfl⟩) ?_
      refine auT 1 rfl ?_
      refine zq rfl (fun _ hC => sem_load1 ⟨k9, 2, none⟩ ((.int .i64 (i123))) rfl TF.agg_3 hC.2.2.2.1 ⟨rfl, rfl⟩) ?_
      refine ⟨zo rfl (sem_callL [(.pointer p2), (.pointer p1), (.int .i64 (i113)), (.int .i64 (i116))] (TF.goes_45) rfl rfl (Spec.mono s fun v h125 hv => ?_)), trivial⟩
      obtain ⟨b126, rfl, s⟩ := hv
      obtain ⟨g127, g128, g129, g130, s⟩ := s
      refine ⟨fun _ => ⟨g127, g128, g129, g130, trivial⟩, ?_⟩
      refine ⟨zo rfl (sem_callL [(.pointer p3), (.int .i64 (i120)), (.int .i64 (i123))] (TF.goes_90) rfl rfl (Spec.mono s fun v h131 hv => ?_)), trivial⟩
      obtain ⟨b132, rfl, s⟩ := hv
      obtain ⟨g133, g134, g135, g136, s⟩ := s
      refine ⟨fun _ => ⟨g133, g134, g135, g136, trivial⟩, ?_⟩
      refine zq rfl (fun _ _ => sem_boolEqV b126 b132 (.inl rfl) ((decide (b126 = b132))) rfl rfl TF.bool_4 (boolEqV_eql _ _) ⟨rfl, rfl⟩) ?_
      refine auT 1 rfl ?_
      exact zr (s.imp fun _ q => ⟨_, rfl, q⟩)
     ·refine au 9 rfl ?_
      exact zr (s.imp fun _ q => ⟨_, rfl, q⟩)
theorem C_sheet_Sheet_Copy.of {B : RO} {p1 : Option Addr} {h : Heap} {Q : Option Addr → Heap → Prop} (s : S_sheet_Sheet_Copy B p1 h Q) : C_sheet_Sheet_Copy B p1 h Q := by
 refine zspec Try.func47 [ResultVar.tmp 2] rfl rfl rfl rfl rfl ?_
 refine au 8 rfl ?_
 by_cases hb3 : p1 = none
 ·replace s := s.1 hb3
  refine zg rfl (sem_ptrNilT p1 (.inl rfl) true rfl rfl TF.ptr_28 hb3 rfl ?_)
  refine au 6 rfl ?_
  exact zr (s.imp fun _ q => ⟨_, rfl, q⟩)
 ·replace s := s.2 hb3
  refine zg rfl (sem_ptrNilF p1 (.inl rfl) false rfl rfl TF.ptr_28 hb3 rfl ?_)
  refine au 6 rfl ?_
  refine znil s rfl rfl fun A4 s => ?_
  refine au 1 rfl ?_
  refine zl s rfl rfl TF.agg_95 fun p6 s => ?_
  refine zcall s rfl rfl TF.goes_91 ?_
  rintro _ h7 ⟨p8, rfl, s⟩
  refine zg rfl (sem_buildSL [(0, (.pointer p8))] [(.pointer p8)] TF.zero_128 TF.places_128 rfl rfl ?_)
  refine zbn s rfl rfl rfl fun k9 h10 s => ?_
  refine au 2 rfl ?_
  exact zr (s.imp fun _ q => ⟨_, rfl, q⟩)
theorem C_sheet_Sheet_Over.of {B : RO} {p1 : Option Addr} {p2 : Option Addr} {i3 : Int} {h : Heap} {Q : Int → Heap → Prop} (s : S_sheet_Sheet_Over B p1 p2 i3 h Q) : C_sheet_Sheet_Over B p1 p2 i3 h Q := by
 refine zspec Try.func48 [ResultVar.tmp 6] rfl rfl rfl rfl rfl ?_
 refine au 2 rfl ?_
 refine zb1 s rfl rfl rfl rfl fun k5 h6 s => ?_
 refine zb1 s rfl rfl rfl rfl fun k7 h8 s => ?_
 refine au 4 rfl ?_
 refine zal s rfl TF.zero_3 rfl fun k9 h10 s => ?_
 refine zs1 s rfl rfl rfl rfl TF.sz_3 fun h11 s => ?_
 refine au 5 rfl ?_
 refine zcall s rfl rfl TF.goes_51 ?_
 rintro _ h12 ⟨p13, rfl, s⟩
 refine zcall s rfl rfl TF.goes_52 ?_
 rintro v15 h14 ⟨_, rfl, s⟩
 refine au 2 rfl ?_
 obtain ⟨xs23, G19, J22, hit, hins, hG, h0, s, hR⟩ := s
 refine Run.of_fin (h0.imp fun h' h0 => ?_)
 refine Run.range (v15) (xs23.map (fun x : Int × Bool × ByteArray => [(.int .i64 (x.1)), (.agg #[(.bool x.2.1), (.string x.2.2)])])) G19 J22 rfl hit hins hG h0 rfl (fun a ha => by obtain ⟨x, _, rfl⟩ := List.mem_map.1 ha; rfl) ?_ ?_
 ·rintro q21 args h20 ha hJ
  obtain ⟨⟨i16, b17, s18⟩, hx, rfl⟩ := Option.map_eq_some_iff.1 ((List.getElem?_map ..).symm.trans ha)
  have s := s q21 h20 i16 b17 s18 hx hJ; clear hJ hx ha
  refine zput rfl ?_
  refine au 5 rfl ?_
  refine zal s rfl TF.zero_41 rfl fun k24 h25 s => ?_
  refine zsn s rfl rfl rfl TF.sz_41 rfl fun h26 s => ?_
  refine au 1 rfl ?_
  refine Run.begin ⟨rfl, ?_⟩
  refine au 3 rfl ?_
  refine zl s rfl rfl TF.agg_25 fun p27 s => ?_
  refine au 1 rfl ?_
  obtain ⟨b28, s29, hl, s⟩ := s
  refine zn hl rfl rfl TF.agg_41 TF.sz_41 rfl ?_
  refine zl s rfl rfl TF.agg_3 fun i30 s => ?_
  refine zcall s rfl rfl TF.goes_85 ?_
  rintro _ h31 ⟨b32, rfl, s⟩
  cases b32
  ·replace s := s.2 rfl
   refine au 4 rfl ?_
   refine Run.of_fin (s.imp fun h' s => ?_)
   exact Run.fall (.inl ⟨rfl, s⟩)
  ·replace s := s.1 rfl
   refine au 3 rfl ?_
   refine zl s rfl rfl TF.agg_3 fun i33 s => ?_
   refine au 1 rfl ?_
   refine zs1 s rfl rfl rfl rfl TF.sz_3 fun h34 s => ?_
   refine au 2 rfl ?_
   refine Run.of_fin (s.imp fun h' s => ?_)
   exact Run.fall (.inl ⟨rfl, s⟩)
 ·intro h20 hJ
  have s := hR h20 (by simpa using hJ); clear hJ hR
  refine au 3 rfl ?_
  refine zl s rfl rfl TF.agg_3 fun i35 s => ?_
  refine au 2 rfl ?_
  exact zr (s.imp fun _ q => ⟨_, rfl, q⟩)
theorem C_tome_Tome_Get.of {B : RO} {p1 : Option Addr} {i2 : Int} {h : Heap} {Q : Bool → ByteArray → Int → Heap → Prop} (s : S_tome_Tome_Get B p1 i2 h Q) : C_tome_Tome_Get B p1 i2 h Q := by
 refine zspec Try.func49 [ResultVar.cell 4 41, ResultVar.tmp 5] rfl rfl rfl rfl rfl ?_
 refine au 2 rfl ?_
 refine zal s rfl TF.zero_41 rfl fun k6 h7 s => ?_
 refine au 6 rfl ?_
 by_cases hb8 : p1 = none
 ·replace s := s.1 hb8
  refine zg rfl (sem_ptrNilT p1 (.inl rfl) true rfl rfl TF.ptr_25 hb8 rfl ?_)
  refine au 4 rfl ?_
  refine zg rfl (sem_buildSL [] [(.bool false), (.string ByteArray.empty)] TF.zero_41 TF.places_41 rfl rfl ?_)
  refine zsn s rfl rfl rfl TF.sz_41 rfl fun h9 s => ?_
  refine au 2 rfl ?_
  obtain ⟨b10, s11, hl0, s⟩ := s
  exact zr (⟨⟨k6, 0, none⟩, (.agg #[(.bool b10), (.string s11)]), rfl, loadHN TF.agg_41 TF.sz_41 hl0, s.imp fun _ q => ⟨_, _, _, rfl, q⟩⟩)
 ·replace s := s.2 hb8
  refine zg rfl (sem_ptrNilF p1 (.inl rfl) false rfl rfl TF.ptr_25 hb8 rfl ?_)
  refine au 6 rfl ?_
  refine znil s rfl rfl fun A12 s => ?_
  refine au 1 rfl ?_
  refine zl s rfl rfl TF.agg_110 fun p14 s => ?_
  refine au 1 rfl ?_
  refine zcall s rfl rfl TF.goes_92 ?_
  rintro _ h15 ⟨b16, s17, i18, rfl, s⟩
  refine au 2 rfl ?_
  refine zsn s rfl rfl rfl TF.sz_41 rfl fun h19 s => ?_
  refine au 2 rfl ?_
  obtain ⟨b20, s21, hl0, s⟩ := s
  exact zr (⟨⟨k6, 0, none⟩, (.agg #[(.bool b20), (.string s21)]), rfl, loadHN TF.agg_41 TF.sz_41 hl0, s.imp fun _ q => ⟨_, _, _, rfl, q⟩⟩)
theorem C_tome_Tome_Bytes.of {B : RO} {p1 : Option Addr} {h : Heap} {Q : ByteArray → Heap → Prop} (s : S_tome_Tome_Bytes B p1 h Q) : C_tome_Tome_Bytes B p1 h Q := by
 refine zspec Try.func50 [ResultVar.tmp 2] rfl rfl rfl rfl rfl ?_
 refine au 6 rfl ?_
 refine zg rfl (sem_buildSL [] [(.slice none 0 0)] TF.zero_146 TF.places_146 rfl rfl ?_)
 refine zbn s rfl rfl rfl fun k3 h4 s => ?_
 refine zal s rfl TF.zero_143 rfl fun k5 h6 s => ?_
 refine zs1 s rfl rfl rfl rfl TF.sz_143 fun h7 s => ?_
 refine au 5 rfl ?_
 refine zcall s rfl rfl TF.goes_93 ?_
 rintro v9 h8 ⟨_, rfl, s⟩
 refine au 2 rfl ?_
 obtain ⟨xs17, G13, J16, hit, hins, hG, h0, s, hR⟩ := s
 refine Run.of_fin (h0.imp fun h' h0 => ?_)
 refine Run.range (v9) (xs17.map (fun x : Int × Bool × ByteArray => [(.int .i64 (x.1)), (.agg #[(.bool x.2.1), (.string x.2.2)])])) G13 J16 rfl hit hins hG h0 rfl (fun a ha => by obtain ⟨x, _, rfl⟩ := List.mem_map.1 ha; rfl) ?_ ?_
 ·rintro q15 args h14 ha hJ
  obtain ⟨⟨i10, b11, s12⟩, hx, rfl⟩ := Option.map_eq_some_iff.1 ((List.getElem?_map ..).symm.trans ha)
  have s := s q15 h14 i10 b11 s12 hx hJ; clear hJ hx ha
  refine zput rfl ?_
  refine au 5 rfl ?_
  refine zal s rfl TF.zero_41 rfl fun k18 h19 s => ?_
  refine zsn s rfl rfl rfl TF.sz_41 rfl fun h20 s => ?_
  refine au 1 rfl ?_
  refine Run.begin ⟨rfl, ?_⟩
  refine au 3 rfl ?_
  refine zl s rfl rfl TF.agg_143 fun p21 s => ?_
  refine au 1 rfl ?_
  refine zg rfl (sem_buildSliceL [(0, (.int .i64 (i10)))] [(.int .i64 (i10))] TF.slc_184 TF.zero_3 rfl (by decide) (by decide) rfl rfl (fun k22 hb1 hb2 h23 hb3 => ?_))
  have s := s k22 hb1 hb2 h23 hb3
  refine zcall s rfl rfl TF.goes_72 ?_
  rintro _ h24 ⟨rfl, s⟩
  refine au 2 rfl ?_
  refine zl s rfl rfl TF.agg_143 fun p25 s => ?_
  refine au 1 rfl ?_
  refine zl s rfl rfl TF.agg_9 fun s26 s => ?_
  refine zg rfl (sem_buildSliceL [(0, (.string s26))] [(.string s26)] TF.slc_45 TF.zero_9 rfl (by decide) (by decide) rfl rfl (fun k27 hb1 hb2 h28 hb3 => ?_))
  have s := s k27 hb1 hb2 h28 hb3
  refine zcall s rfl rfl TF.goes_94 ?_
  rintro _ h29 ⟨rfl, s⟩
  refine au 2 rfl ?_
  refine Run.of_fin (s.imp fun h' s => ?_)
  exact Run.fall (.inl ⟨rfl, s⟩)
 ·intro h14 hJ
  have s := hR h14 (by simpa using hJ); clear hJ hR
  refine au 3 rfl ?_
  refine zl s rfl rfl TF.agg_143 fun p30 s => ?_
  refine zcall s rfl rfl TF.goes_74 ?_
  rintro _ h31 ⟨s32, rfl, s⟩
  refine au 2 rfl ?_
  exact zr (s.imp fun _ q => ⟨_, rfl, q⟩)
theorem C_sheet_Sheet_Draft.of {B : RO} {p1 : Option Addr} {h : Heap} {Q : Option Addr → Heap → Prop} (s : S_sheet_Sheet_Draft B p1 h Q) : C_sheet_Sheet_Draft B p1 h Q := by
 refine zspec Try.func51 [ResultVar.tmp 2] rfl rfl rfl rfl rfl ?_
 refine au 8 rfl ?_
 by_cases hb3 : p1 = none
 ·replace s := s.1 hb3
  refine zg rfl (sem_ptrNilT p1 (.inl rfl) true rfl rfl TF.ptr_28 hb3 rfl ?_)
  refine au 6 rfl ?_
  exact zr (s.imp fun _ q => ⟨_, rfl, q⟩)
 ·replace s := s.2 hb3
  refine zg rfl (sem_ptrNilF p1 (.inl rfl) false rfl rfl TF.ptr_28 hb3 rfl ?_)
  refine au 6 rfl ?_
  refine znil s rfl rfl fun A4 s => ?_
  refine au 1 rfl ?_
  refine zl s rfl rfl TF.agg_95 fun p6 s => ?_
  refine au 2 rfl ?_
  exact zr (s.imp fun _ q => ⟨_, rfl, q⟩)
theorem C_draft_Draft_file_File_All.of {B : RO} {p1 : Option Addr} {h : Heap} {Q : Value → Heap → Prop} (s : S_draft_Draft_file_File_All B p1 h Q) : C_draft_Draft_file_File_All B p1 h Q := by
 refine zspec Try.func52 [ResultVar.tmp 2] rfl rfl rfl rfl rfl ?_
 refine au 2 rfl ?_
 refine zb1 s rfl rfl rfl rfl fun k3 h4 s => ?_
 refine au 7 rfl ?_
 exact zr (s.imp fun _ q => ⟨_, rfl, q⟩)
theorem C_draft_Draft_file_File_Len.of {B : RO} {p1 : Option Addr} {h : Heap} {Q : Int → Heap → Prop} (s : S_draft_Draft_file_File_Len B p1 h Q) : C_draft_Draft_file_File_Len B p1 h Q := by
 refine zspec Try.func53 [ResultVar.tmp 2] rfl rfl rfl rfl rfl ?_
 refine au 8 rfl ?_
 by_cases hb3 : p1 = none
 ·replace s := s.1 hb3
  refine zg rfl (sem_ptrNilT p1 (.inl rfl) true rfl rfl TF.ptr_95 hb3 rfl ?_)
  refine au 6 rfl ?_
  exact zr (s.imp fun _ q => ⟨_, rfl, q⟩)
 ·replace s := s.2 hb3
  refine zg rfl (sem_ptrNilF p1 (.inl rfl) false rfl rfl TF.ptr_95 hb3 rfl ?_)
  refine au 6 rfl ?_
  refine znil s rfl rfl fun A4 s => ?_
  refine au 1 rfl ?_
  refine Run.ldSl s fun a6 n7 c8 h9 hl s => ?_
  refine zg rfl (sem_load1 A4 ((.slice a6 n7 c8)) rfl TF.agg_158 hl ?_)
  refine zg rfl (sem_lenSl a6 n7 c8 rfl TF.sl_158 ?_)
  refine au 2 rfl ?_
  exact zr (s.imp fun _ q => ⟨_, rfl, q⟩)
theorem C_sheet_Sheet_Write.of {B : RO} {p1 : Option Addr} {p2 : Option Addr} {i3 : Int} {i4 : Int} {i5 : Int} {h : Heap} {Q : Bool → Heap → Prop} (s : S_sheet_Sheet_Write B p1 p2 i3 i4 i5 h Q) : C_sheet_Sheet_Write B p1 p2 i3 i4 i5 h Q := by
 refine zspec Try.func54 [ResultVar.tmp 10] rfl rfl rfl rfl rfl ?_
 refine au 9 rfl ?_
 refine zcall s rfl rfl TF.goes_23 ?_
 rintro _ h7 ⟨b8, s9, b10, rfl, s⟩
 refine au 3 rfl ?_
 refine zal s rfl TF.zero_41 rfl fun k11 h12 s => ?_
 refine zsn s rfl rfl rfl TF.sz_41 rfl fun h13 s => ?_
 refine au 7 rfl ?_
 obtain ⟨b14, s15, hl, s⟩ := s
 refine zn hl rfl rfl TF.agg_41 TF.sz_41 rfl ?_
 refine au 2 rfl ?_
 refine zcall s rfl rfl TF.goes_96 ?_
 rintro _ h16 ⟨b17, s18, rfl, s⟩
 refine zcall s rfl rfl TF.goes_67 ?_
 rintro _ h19 ⟨b20, rfl, s⟩
 refine au 2 rfl ?_
 exact zr (s.imp fun _ q => ⟨_, rfl, q⟩)
theorem C_sheet_Sheet_Cut.of {B : RO} {p1 : Option Addr} {p2 : Option Addr} {i3 : Int} {i4 : Int} {h : Heap} {Q : Bool → Heap → Prop} (s : S_sheet_Sheet_Cut B p1 p2 i3 i4 h Q) : C_sheet_Sheet_Cut B p1 p2 i3 i4 h Q := by
 refine zspec Try.func55 [ResultVar.tmp 8] rfl rfl rfl rfl rfl ?_
 refine au 9 rfl ?_
 refine zcall s rfl rfl TF.goes_23 ?_
 rintro _ h6 ⟨b7, s8, b9, rfl, s⟩
 refine au 3 rfl ?_
 refine zal s rfl TF.zero_41 rfl fun k10 h11 s => ?_
 refine zsn s rfl rfl rfl TF.sz_41 rfl fun h12 s => ?_
 refine au 7 rfl ?_
 obtain ⟨b13, s14, hl, s⟩ := s
 refine zn hl rfl rfl TF.agg_41 TF.sz_41 rfl ?_
 refine au 1 rfl ?_
 refine zcall s rfl rfl TF.goes_97 ?_
 rintro _ h15 ⟨b16, s17, rfl, s⟩
 refine zcall s rfl rfl TF.goes_67 ?_
 rintro _ h18 ⟨b19, rfl, s⟩
 refine au 2 rfl ?_
 exact zr (s.imp fun _ q => ⟨_, rfl, q⟩)
theorem C_sheet_Sheet_Remove.of {B : RO} {p1 : Option Addr} {p2 : Option Addr} {i3 : Int} {h : Heap} {Q : Bool → Heap → Prop} (s : S_sheet_Sheet_Remove B p1 p2 i3 h Q) : C_sheet_Sheet_Remove B p1 p2 i3 h Q := by
 refine zspec Try.func56 [ResultVar.tmp 6] rfl rfl rfl rfl rfl ?_
 refine au 9 rfl ?_
 refine zg rfl (sem_buildSL [] [(.bool false), (.string ByteArray.empty)] TF.zero_41 TF.places_41 rfl rfl ?_)
 refine zcall s rfl rfl TF.goes_67 ?_
 rintro _ h5 ⟨b6, rfl, s⟩
 refine au 2 rfl ?_
 exact zr (s.imp fun _ q => ⟨_, rfl, q⟩)
theorem C_cell_New_file_File.of {B : RO} {i1 : Int} {b2 : Bool} {s3 : ByteArray} {h : Heap} {Q : Option Addr → Heap → Prop} (s : S_cell_New_file_File B i1 b2 s3 h Q) : C_cell_New_file_File B i1 b2 s3 h Q := by
 refine zspec Try.func60 [ResultVar.tmp 4] rfl rfl rfl rfl rfl ?_
 refine au 2 rfl ?_
 refine zbn s rfl rfl rfl fun k5 h6 s => ?_
 refine au 4 rfl ?_
 refine zg rfl (sem_buildSL [] [(.slice none 0 0)] TF.zero_168 TF.places_168 rfl rfl ?_)
 refine zbn s rfl rfl rfl fun k7 h8 s => ?_
 refine au 9 rfl ?_
 obtain ⟨J14, m12, h0, s⟩ := s
 refine Run.of_fin (h0.imp fun h' h0 => ?_)
 refine Run.loop (σ := Int × Nat) (fun x e h => J14 x.1 x.2 h ∧ Agree [(3, (.pointer (some ⟨k5, 0, none⟩))), (5, (.pointer (some ⟨k7, 0, none⟩))), (8, (.int .i64 (i1))), (9, (.int .i64 (x.1)))] e) (fun x => x.2) ((0), m12) ⟨h0, ⟨rfl, rfl, rfl, rfl, trivial⟩⟩ ?_; clear h0
 rintro ⟨i9, m11⟩ e h10 ⟨hJ, hag⟩ ih13
 have s := s i9 m11 h10 hJ; clear hJ
 refine Run.env hag ?_; clear hag
 refine au 2 rfl ?_
 refine zt s rfl rfl rfl binI_lss_t binI_lss_f (fun s => ?_) fun s => ?_
 ·refine au 6 rfl ?_
  obtain ⟨a19, n20, c21, hl, s⟩ := s
  have f22 := hl
  obtain ⟨b23, s24, hl, s⟩ := s
  have f25 := hl
  refine Run.drawM (fun h' => cellH B h' ⟨k7, 0, none⟩ = some (.slice a19 n20 c21) ∧ CellsAt B h' ⟨k5, 0, none⟩ 0 [(.bool b23), (.string s24)] ∧ True) [11] ⟨[0, 0, 2, 4, 8, 0, 32, 64, 144, 511, 1023, 1535], [4095, 4095, 4093, 4091, 4087, 4095, 4063, 4031, 3951, 4094, 3583, 2815], [0, 0, 2, 6, 14, 0, 32, 96, 254, 511, 1023, 2047], 2048⟩ (.q 0 (.q 1 (.q 2 (.q 3 (.q 4 (.q 5 (.q 6 (.x 7 (.x 8 (.q 9 (.q 10 (.x 11 .nil .no))) .no) .no)))))))) TF.mixed (by kernel_rfl) ⟨f22, f25, trivial⟩ ?_
  refine auT 4 rfl ?_
  refine zq rfl (fun _ hC => sem_load1 ⟨k7, 0, none⟩ ((.slice a19 n20 c21)) rfl TF.agg_166 hC.1 ⟨rfl, rfl⟩) ?_
  refine zq rfl (fun _ hC => sem_loadN ⟨k5, 0, none⟩ [(.bool b23), (.string s24)] rfl TF.agg_41 TF.sz_41 hC.2.1 ⟨rfl, rfl⟩) ?_
  refine zq rfl (fun _ hC => sem_buildSL [(0, (.agg #[(.bool b23), (.string s24)]))] [(.bool b23), (.string s24), (.int .i64 (0))] TF.zero_170 TF.places_170 rfl rfl ⟨rfl, rfl⟩) ?_
  refine ⟨zo rfl (sem_buildSliceL [(0, (.agg #[(.bool b23), (.string s24), (.int .i64 (0))]))] [(.bool b23), (.string s24), (.int .i64 (0))] TF.slc_166 TF.zero_170 rfl (by decide) (by decide) rfl rfl (fun k27 hb1 hb2 h28 hb3 => ?_)), trivial⟩
  have s := s k27 hb1 hb2 h28 hb3
  obtain ⟨g29, g30, s⟩ := s
  refine ⟨fun _ => ⟨g29, g30, trivial⟩, ?_⟩
  refine ⟨zo rfl (sem_appendL [(.slice a19 n20 c21), (.slice (some ⟨k27, 0, none⟩) 1 1)] rfl (semH_mono (fun v h31 hv => ?_) s)), trivial⟩
  obtain ⟨a32, n33, c34, rfl, s⟩ := hv
  obtain ⟨g35, g36, s⟩ := s
  refine ⟨fun _ => ⟨g35, g36, trivial⟩, ?_⟩
  refine auT 2 rfl ?_
  obtain ⟨h37, hst, s⟩ := s
  refine ⟨zo0 rfl (sem_store1 ⟨k7, 0, none⟩ ((.slice a32 n33 c34)) h37 rfl rfl rfl TF.sz_166 hst ?_), trivial⟩
  refine ⟨fun hz => Bool.noConfusion hz, ?_⟩
  refine au 5 rfl ?_
  exact Run.of_fin (s.imp fun h' ⟨m', hm, s⟩ => ih13 ((IntKind.wrap .i64 ((i9) + (1))), m') _ _ ⟨s, ⟨rfl, rfl, rfl, rfl, trivial⟩⟩ hm)
 ·refine au 9 rfl ?_
  exact zr (s.imp fun _ q => ⟨_, rfl, q⟩)
theorem C_sheet_New.of {B : RO} {h : Heap} {Q : Option Addr → Heap → Prop} (s : S_sheet_New B h Q) : C_sheet_New B h Q := by
 refine zspec Try.func61 [ResultVar.tmp 0] rfl rfl rfl rfl rfl ?_
 refine au 6 rfl ?_
 refine zg rfl (sem_buildSL [] [(.slice none 0 0)] TF.zero_160 TF.places_160 rfl rfl ?_)
 refine zbn s rfl rfl rfl fun k2 h3 s => ?_
 refine zg rfl (sem_buildSL [(0, (.pointer (some ⟨k2, 0, none⟩)))] [(.pointer (some ⟨k2, 0, none⟩))] TF.zero_128 TF.places_128 rfl rfl ?_)
 refine zbn s rfl rfl rfl fun k4 h5 s => ?_
 refine au 2 rfl ?_
 exact zr (s.imp fun _ q => ⟨_, rfl, q⟩)
theorem C_sheet_Sheet_put.of {B : RO} {p1 : Option Addr} {p2 : Option Addr} {i3 : Int} {b4 : Bool} {s5 : ByteArray} {h : Heap} {Q : Bool → Heap → Prop} (s : S_sheet_Sheet_put B p1 p2 i3 b4 s5 h Q) : C_sheet_Sheet_put B p1 p2 i3 b4 s5 h Q := by
 refine zspec Try.func67 [ResultVar.tmp 8] rfl rfl rfl rfl rfl ?_
 refine au 2 rfl ?_
 refine zbn s rfl rfl rfl fun k7 h8 s => ?_
 refine au 2 rfl ?_
 refine Run.seqJ (fun e h10 => Agree [(0, (.pointer p1)), (1, (.pointer p2)), (2, (.int .i64 (i3))), (7, (.pointer (some ⟨k7, 0, none⟩)))] e ∧ S_sheet_Sheet_put_J1 B p1 p2 i3 k7 h10 Q) ?_ fun j9 => ?_
 ·rintro e h10 ⟨hag, s⟩
  refine Run.env hag ?_; clear hag
  refine au 6 rfl ?_
  refine zcall s rfl rfl TF.goes_23 ?_
  rintro _ h11 ⟨b12, s13, b14, rfl, s⟩
  refine au 3 rfl ?_
  refine zal s rfl TF.zero_41 rfl fun k15 h16 s => ?_
  refine zsn s rfl rfl rfl TF.sz_41 rfl fun h17 s => ?_
  refine au 4 rfl ?_
  obtain ⟨b18, s19, hl, s⟩ := s
  refine zn hl rfl rfl TF.agg_41 TF.sz_41 rfl ?_
  obtain ⟨b20, s21, hl, s⟩ := s
  refine zn hl rfl rfl TF.agg_41 TF.sz_41 rfl ?_
  by_cases hb22 : eqL [(.bool b18), (.string s19)] [(.bool b20), (.string s21)] = true
  ·replace s := s.1 hb22
   refine zg rfl (sem_aggEq [(.bool b18), (.string s19)] [(.bool b20), (.string s21)] _ (true) (.inl rfl) rfl rfl TF.agg_41 TF.flat_41 TF.eqg_41 ⟨⟨_, rfl⟩, ⟨_, rfl⟩, trivial⟩ ⟨⟨_, rfl⟩, ⟨_, rfl⟩, trivial⟩ (eqLT_eql hb22) ?_)
   refine au 6 rfl ?_
   exact zr (s.imp fun _ q => ⟨_, rfl, q⟩)
  ·replace s := s.2 hb22
   refine zg rfl (sem_aggEq [(.bool b18), (.string s19)] [(.bool b20), (.string s21)] _ (false) (.inl rfl) rfl rfl TF.agg_41 TF.flat_41 TF.eqg_41 ⟨⟨_, rfl⟩, ⟨_, rfl⟩, trivial⟩ ⟨⟨_, rfl⟩, ⟨_, rfl⟩, trivial⟩ (eqLF_eql hb22) ?_)
   refine au 4 rfl ?_
   obtain ⟨A24, e25, s⟩ := s
   obtain ⟨p28, hl, s⟩ := s
   have f29 := hl
   obtain ⟨b31, s32, hl, s⟩ := s
   have f33 := hl
   refine Run.drawM (fun h' => cellH B h' A24 = some (.pointer p28) ∧ CellsAt B h' ⟨k7, 0, none⟩ 0 [(.bool b31), (.string s32)] ∧ True) [] ⟨[0, 1, 2, 4, 0, 0, 56, 127], [255, 254, 253, 251, 255, 255, 199, 191], [0, 0, 0, 0, 0, 0, 0, 0], 0⟩ (.q 0 (.q 1 (.q 2 (.q 3 (.q 4 (.q 5 (.x 6 (.q 7 .nil) .no))))))) TF.mixed (by kernel_rfl) ⟨f29, f33, trivial⟩ ?_
   refine auT 1 rfl ?_
   refine zq rfl (fun _ hC => sem_nilCheck A24 (congrArg Value.pointer e25) ⟨rfl, rfl⟩) ?_
   refine auT 1 rfl ?_
   refine zq rfl (fun _ hC => sem_load1 A24 ((.pointer p28)) rfl TF.agg_95 hC.1 ⟨rfl, rfl⟩) ?_
   refine auT 1 rfl ?_
   refine zq rfl (fun _ hC => sem_loadN ⟨k7, 0, none⟩ [(.bool b31), (.string s32)] rfl TF.agg_41 TF.sz_41 hC.2.1 ⟨rfl, rfl⟩) ?_
   refine ⟨zo rfl (sem_callL [(.pointer p28), (.int .i64 (i3)), (.agg #[(.bool b31), (.string s32)])] (TF.goes_104) rfl rfl (Spec.mono s fun v h34 hv => ?_)), trivial⟩
   obtain ⟨b35, rfl, s⟩ := hv
   obtain ⟨g36, g37, s⟩ := s
   refine ⟨fun _ => ⟨g36, g37, trivial⟩, ?_⟩
   refine auT 1 rfl ?_
   exact zr (s.imp fun _ q => ⟨_, rfl, q⟩)
 refine au 3 rfl ?_
 by_cases hb38 : p1 = none
 ·replace s := s.1 hb38
  refine zg rfl (sem_ptrNilT p1 (.inl rfl) true rfl rfl TF.ptr_28 hb38 rfl ?_)
  refine au 14 rfl ?_
  exact zr (s.imp fun _ q => ⟨_, rfl, q⟩)
 ·replace s := s.2 hb38
  refine zg rfl (sem_ptrNilF p1 (.inl rfl) false rfl rfl TF.ptr_28 hb38 rfl ?_)
  refine au 2 rfl ?_
  refine zt s rfl rfl rfl binI_lss_t binI_lss_f (fun s => ?_) fun s => ?_
  ·refine au 11 rfl ?_
   exact zr (s.imp fun _ q => ⟨_, rfl, q⟩)
  ·refine au 3 rfl ?_
   refine zt s rfl rfl rfl binI_geq_t binI_geq_f (fun s => ?_) fun s => ?_
   ·refine au 7 rfl ?_
    exact zr (s.imp fun _ q => ⟨_, rfl, q⟩)
   ·refine au 4 rfl ?_
    exact Run.of_fin (s.imp fun h' s => j9 _ _ ⟨⟨rfl, rfl, rfl, rfl, trivial⟩, s⟩)
theorem C_file_Make.of {B : RO} {b1 : Bool} {s2 : ByteArray} {h : Heap} {Q : Bool → ByteArray → Heap → Prop} (s : S_file_Make B b1 s2 h Q) : C_file_Make B b1 s2 h Q := by
 refine zspec Try.func68 [ResultVar.cell 2 41] rfl rfl rfl rfl rfl ?_
 refine au 2 rfl ?_
 refine zbn s rfl rfl rfl fun k5 h6 s => ?_
 refine zal s rfl TF.zero_41 rfl fun k7 h8 s => ?_
 refine au 4 rfl ?_
 refine zl s rfl rfl TF.agg_9 fun s9 s => ?_
 refine zg rfl (sem_buildSL [(0, (.bool true)), (1, (.string s9))] [(.bool true), (.string s9)] TF.zero_41 TF.places_41 rfl rfl ?_)
 refine zsn s rfl rfl rfl TF.sz_41 rfl fun h10 s => ?_
 refine au 1 rfl ?_
 obtain ⟨b11, s12, hl0, s⟩ := s
 exact zr (⟨⟨k7, 0, none⟩, (.agg #[(.bool b11), (.string s12)]), rfl, loadHN TF.agg_41 TF.sz_41 hl0, s.imp fun _ q => ⟨_, _, rfl, q⟩⟩)
theorem C_draft_Draft_file_File_Get.of {B : RO} {p1 : Option Addr} {i2 : Int} {h : Heap} {Q : Bool → ByteArray → Bool → Heap → Prop} (s : S_draft_Draft_file_File_Get B p1 i2 h Q) : C_draft_Draft_file_File_Get B p1 i2 h Q := by
 refine zspec Try.func69 [ResultVar.cell 4 41, ResultVar.tmp 5] rfl rfl rfl rfl rfl ?_
 refine au 2 rfl ?_
 refine zal s rfl TF.zero_41 rfl fun k6 h7 s => ?_
 refine au 4 rfl ?_
 refine zal s rfl TF.zero_41 rfl fun k8 h9 s => ?_
 refine au 5 rfl ?_
 by_cases hb10 : p1 = none
 ·replace s := s.1 hb10
  refine zg rfl (sem_ptrNilT p1 (.inl rfl) true rfl rfl TF.ptr_95 hb10 rfl ?_)
  refine au 4 rfl ?_
  obtain ⟨b11, s12, hl, s⟩ := s
  refine zn hl rfl rfl TF.agg_41 TF.sz_41 rfl ?_
  refine zsn s rfl rfl rfl TF.sz_41 rfl fun h13 s => ?_
  refine au 2 rfl ?_
  obtain ⟨b14, s15, hl0, s⟩ := s
  exact zr (⟨⟨k6, 0, none⟩, (.agg #[(.bool b14), (.string s15)]), rfl, loadHN TF.agg_41 TF.sz_41 hl0, s.imp fun _ q => ⟨_, _, _, rfl, q⟩⟩)
 ·replace s := s.2 hb10
  refine zg rfl (sem_ptrNilF p1 (.inl rfl) false rfl rfl TF.ptr_95 hb10 rfl ?_)
  refine au 7 rfl ?_
  refine zcall s rfl rfl TF.goes_105 ?_
  rintro _ h16 ⟨i17, b18, rfl, s⟩
  refine au 2 rfl ?_
  cases b18
  ·replace s := s.2 rfl
   refine au 1 rfl ?_
   refine au 12 rfl ?_
   obtain ⟨b19, s20, hl, s⟩ := s
   refine zn hl rfl rfl TF.agg_41 TF.sz_41 rfl ?_
   refine zsn s rfl rfl rfl TF.sz_41 rfl fun h21 s => ?_
   refine au 2 rfl ?_
   obtain ⟨b22, s23, hl0, s⟩ := s
   exact zr (⟨⟨k6, 0, none⟩, (.agg #[(.bool b22), (.string s23)]), rfl, loadHN TF.agg_41 TF.sz_41 hl0, s.imp fun _ q => ⟨_, _, _, rfl, q⟩⟩)
  ·replace s := s.1 rfl
   refine au 1 rfl ?_
   refine au 14 rfl ?_
   refine znil s rfl rfl fun A24 s => ?_
   refine au 1 rfl ?_
   refine Run.ldSl s fun a26 n27 c28 h29 hl s => ?_
   refine zg rfl (sem_load1 A24 ((.slice a26 n27 c28)) rfl TF.agg_158 hl ?_)
   refine au 1 rfl ?_
   obtain ⟨A30, e31, hi0, hi1, s⟩ := s
   refine zg rfl (sem_indexAddrS A30 n27 c28 .i64 (i17) (congrArg (fun a => Value.slice a n27 c28) e31) rfl TF.slc_158 hi0 hi1 ?_)
   refine au 1 rfl ?_
   obtain ⟨b32, s33, hl, s⟩ := s
   refine zn hl rfl rfl TF.agg_41 TF.sz_41 rfl ?_
   refine zsn s rfl rfl rfl TF.sz_41 rfl fun h34 s => ?_
   refine au 2 rfl ?_
   obtain ⟨b35, s36, hl0, s⟩ := s
   exact zr (⟨⟨k6, 0, none⟩, (.agg #[(.bool b35), (.string s36)]), rfl, loadHN TF.agg_41 TF.sz_41 hl0, s.imp fun _ q => ⟨_, _, _, rfl, q⟩⟩)
theorem C_stylus_Stylus_Nat.of {B : RO} {p1 : Option Addr} {a2 : Option Addr} {n3 : Nat} {c4 : Nat} {h : Heap} {Q : Heap → Prop} (s : S_stylus_Stylus_Nat B p1 a2 n3 c4 h Q) : C_stylus_Stylus_Nat B p1 a2 n3 c4 h Q := by
 refine zspec Try.func72 [] rfl rfl rfl rfl rfl ?_
 refine au 3 rfl ?_
 refine zg rfl (sem_lenSl a2 n3 c4 rfl TF.sl_184 ?_)
 refine au 3 rfl ?_
 obtain ⟨J10, m8, h0, s⟩ := s
 refine Run.of_fin (h0.imp fun h' h0 => ?_)
 refine Run.loop (σ := Int × Nat) (fun x e h => J10 x.1 x.2 h ∧ Agree [(0, (.pointer p1)), (6, (.slice a2 n3 c4)), (7, (.int .i64 ((n3 : Nat)))), (8, (.int .i64 (x.1)))] e) (fun x => x.2) ((0), m8) ⟨h0, ⟨rfl, rfl, rfl, rfl, trivial⟩⟩ ?_; clear h0
 rintro ⟨i5, m7⟩ e h6 ⟨hJ, hag⟩ ih9
 have s := s i5 m7 h6 hJ; clear hJ
 refine Run.env hag ?_; clear hag
 refine au 2 rfl ?_
 refine zt s rfl rfl rfl binI_lss_t binI_lss_f (fun s => ?_) fun s => ?_
 ·refine au 8 rfl ?_
  obtain ⟨A11, e12, hi0, hi1, s⟩ := s
  refine zg rfl (sem_indexAddrS A11 n3 c4 .i64 (i5) (congrArg (fun a => Value.slice a n3 c4) e12) rfl TF.slc_184 hi0 hi1 ?_)
  refine zl s rfl rfl TF.agg_3 fun i13 s => ?_
  refine au 6 rfl ?_
  refine zt s rfl rfl rfl binI_lss_t binI_lss_f (fun s => ?_) fun s => ?_
  ·refine au 7 rfl ?_
   exact Run.of_fin (s.imp fun h' ⟨m', hm, s⟩ => ih9 ((IntKind.wrap .i64 ((i5) + (1))), m') _ _ ⟨s, ⟨rfl, rfl, rfl, rfl, trivial⟩⟩ hm)
  ·refine au 3 rfl ?_
   refine Run.seqJ (fun e h16 => ∃ i15 : Int, Agree [(0, (.pointer p1)), (5, (.int .i64 (i15))), (6, (.slice a2 n3 c4)), (7, (.int .i64 ((n3 : Nat)))), (8, (.int .i64 (i5)))] e ∧ S_stylus_Stylus_Nat_J1 B p1 a2 n3 c4 i5 m7 J10 i15 h16 Q) ?_ fun j14 => ?_
   ·rintro e h16 ⟨i15, hag, s⟩
    refine Run.env hag ?_; clear hag
    refine au 3 rfl ?_
    refine znil s rfl rfl fun A17 s => ?_
    refine au 1 rfl ?_
    refine Run.ldSl s fun a19 n20 c21 h22 hl s => ?_
    refine zg rfl (sem_load1 A17 ((.slice a19 n20 c21)) rfl TF.agg_144 hl ?_)
    refine au 1 rfl ?_
    refine zg rfl (sem_convI .i64 .u8 (i15) rfl TF.int_3 TF.int_5 ?_)
    refine zg rfl (sem_buildSliceL [(0, (.int .u8 (IntKind.wrap .u8 (i15))))] [(.int .u8 (IntKind.wrap .u8 (i15)))] TF.slc_144 TF.zero_5 rfl (by decide) (by decide) rfl rfl (fun k23 hb1 hb2 h24 hb3 => ?_))
    have s := s k23 hb1 hb2 h24 hb3
    refine zg rfl (sem_appendL [(.slice a19 n20 c21), (.slice (some ⟨k23, 0, none⟩) 1 1)] rfl (semH_mono (fun v h25 hv => ?_) s))
    obtain ⟨a26, n27, c28, rfl, s⟩ := hv
    refine znil s rfl rfl fun A29 s => ?_
    refine au 1 rfl ?_
    refine zs1 s rfl rfl rfl rfl TF.sz_144 fun h31 s => ?_
    refine au 6 rfl ?_
    exact Run.of_fin (s.imp fun h' ⟨m', hm, s⟩ => ih9 ((IntKind.wrap .i64 ((i5) + (1))), m') _ _ ⟨s, ⟨rfl, rfl, rfl, rfl, trivial⟩⟩ hm)
   refine au 1 rfl ?_
   obtain ⟨J37, m35, h0, s⟩ := s
   refine Run.of_fin (h0.imp fun h' h0 => ?_)
   refine Run.loop (σ := Int × Nat) (fun x e h => J37 x.1 x.2 h ∧ Agree [(0, (.pointer p1)), (5, (.int .i64 (x.1))), (6, (.slice a2 n3 c4)), (7, (.int .i64 ((n3 : Nat)))), (8, (.int .i64 (i5)))] e) (fun x => x.2) ((i13), m35) ⟨h0, ⟨rfl, rfl, rfl, rfl, rfl, trivial⟩⟩ ?_; clear h0
   rintro ⟨i32, m34⟩ e h33 ⟨hJ, hag⟩ ih36
   have s := s i32 m34 h33 hJ; clear hJ
   refine Run.env hag ?_; clear hag
   refine au 4 rfl ?_
   refine zt s rfl rfl rfl binI_geq_t binI_geq_f (fun s => ?_) fun s => ?_
   ·refine au 8 rfl ?_
    refine znil s rfl rfl fun A38 s => ?_
    refine au 1 rfl ?_
    refine Run.ldSl s fun a40 n41 c42 h43 hl s => ?_
    refine zg rfl (sem_load1 A38 ((.slice a40 n41 c42)) rfl TF.agg_144 hl ?_)
    refine au 1 rfl ?_
    refine zg rfl (sem_convI .i64 .u8 (i32) rfl TF.int_3 TF.int_5 ?_)
    refine au 1 rfl ?_
    refine zg rfl (sem_buildSliceL [(0, (.int .u8 (IntKind.wrap .u8 ((BitVec.ofInt (IntKind.bits .u8) (IntKind.wrap .u8 (i32)) ||| BitVec.ofInt (IntKind.bits .u8) (128)).toNat : Int))))] [(.int .u8 (IntKind.wrap .u8 ((BitVec.ofInt (IntKind.bits .u8) (IntKind.wrap .u8 (i32)) ||| BitVec.ofInt (IntKind.bits .u8) (128)).toNat : Int)))] TF.slc_144 TF.zero_5 rfl (by decide) (by decide) rfl rfl (fun k44 hb1 hb2 h45 hb3 => ?_))
    have s := s k44 hb1 hb2 h45 hb3
    refine zg rfl (sem_appendL [(.slice a40 n41 c42), (.slice (some ⟨k44, 0, none⟩) 1 1)] rfl (semH_mono (fun v h46 hv => ?_) s))
    obtain ⟨a47, n48, c49, rfl, s⟩ := hv
    refine znil s rfl rfl fun A50 s => ?_
    refine au 1 rfl ?_
    refine zs1 s rfl rfl rfl rfl TF.sz_144 fun h52 s => ?_
    refine au 3 rfl ?_
    obtain ⟨hi0, s⟩ := s
    refine zg rfl (sem_shr .i64 .u64 (i32) (7) rfl rfl hi0 ?_)
    refine au 3 rfl ?_
    exact Run.of_fin (s.imp fun h' ⟨m', hm, s⟩ => ih36 ((Int.fdiv (i32) (2 ^ (min (Int.toNat (7)) (IntKind.bits .i64)))), m') _ _ ⟨s, ⟨rfl, rfl, rfl, rfl, rfl, trivial⟩⟩ hm)
   ·refine au 3 rfl ?_
    exact Run.of_fin (s.imp fun h' s => j14 _ _ ⟨(i32), ⟨rfl, rfl, rfl, rfl, rfl, trivial⟩, s⟩)
 ·refine au 4 rfl ?_
  exact zf (s.imp fun _ q => ⟨rfl, q⟩)
theorem C_stylus_Stylus_Raw.of {B : RO} {p1 : Option Addr} {s2 : ByteArray} {h : Heap} {Q : Heap → Prop} (s : S_stylus_Stylus_Raw B p1 s2 h Q) : C_stylus_Stylus_Raw B p1 s2 h Q := by
 refine zspec Try.func73 [] rfl rfl rfl rfl rfl ?_
 refine au 3 rfl ?_
 refine znil s rfl rfl fun A3 s => ?_
 refine au 1 rfl ?_
 refine Run.ldSl s fun a5 n6 c7 h8 hl s => ?_
 refine zg rfl (sem_load1 A3 ((.slice a5 n6 c7)) rfl TF.agg_144 hl ?_)
 refine au 1 rfl ?_
 refine zg rfl (sem_appendL [(.slice a5 n6 c7), (.string s2)] rfl (semH_mono (fun v h9 hv => ?_) s))
 obtain ⟨a10, n11, c12, rfl, s⟩ := hv
 refine znil s rfl rfl fun A13 s => ?_
 refine au 1 rfl ?_
 refine zs1 s rfl rfl rfl rfl TF.sz_144 fun h15 s => ?_
 refine au 1 rfl ?_
 exact zf (s.imp fun _ q => ⟨rfl, q⟩)
theorem C_stylus_Stylus_Bytes.of {B : RO} {p1 : Option Addr} {h : Heap} {Q : ByteArray → Heap → Prop} (s : S_stylus_Stylus_Bytes B p1 h Q) : C_stylus_Stylus_Bytes B p1 h Q := by
 refine zspec Try.func74 [ResultVar.tmp 2] rfl rfl rfl rfl rfl ?_
 refine au 7 rfl ?_
 refine znil s rfl rfl fun A3 s => ?_
 refine au 1 rfl ?_
 refine Run.ldSl s fun a5 n6 c7 h8 hl s => ?_
 refine zg rfl (sem_load1 A3 ((.slice a5 n6 c7)) rfl TF.agg_144 hl ?_)
 refine zg rfl (sem_convW ((.slice a5 n6 c7)) rfl (semH_mono (fun v h10 hv => ?_) s))
 obtain ⟨s9, rfl, s⟩ := hv
 refine au 2 rfl ?_
 exact zr (s.imp fun _ q => ⟨_, rfl, q⟩)
theorem C_tome_Tome_Set.of {B : RO} {p1 : Option Addr} {i2 : Int} {b3 : Bool} {s4 : ByteArray} {i5 : Int} {h : Heap} {Q : Bool → Heap → Prop} (s : S_tome_Tome_Set B p1 i2 b3 s4 i5 h Q) : C_tome_Tome_Set B p1 i2 b3 s4 i5 h Q := by
 refine zspec Try.func85 [ResultVar.tmp 8] rfl rfl rfl rfl rfl ?_
 refine au 2 rfl ?_
 refine zbn s rfl rfl rfl fun k7 h8 s => ?_
 refine au 3 rfl ?_
 by_cases hb10 : p1 = none
 ·replace s := s.1 hb10
  refine Run.drawM (fun h' => True) [] ⟨[0, 1, 2, 4, 12, 20, 48, 64, 192, 320, 576, 64, 64, 64, 15424, 16448, 65535], [131071, 131070, 131069, 131067, 131059, 131051, 131039, 131007, 130879, 130751, 130495, 131007, 131007, 131007, 115647, 114623, 98303], [0, 0, 0, 0, 0, 0, 0, 0, 0, 0, 0, 0, 0, 0, 0, 0, 0], 0⟩ (.q 0 (.q 1 (.q 2 (.q 3 (.x 4 (.q 5 (.q 6 (.q 7 (.q 8 (.q 9 (.q 11 (.q 13 (.x 10 (.x 12 (.x 14 (.q 15 (.q 16 .nil)) .no) .no) (.x 12 (.x 10 (.x 14 (.q 15 (.q 16 .nil)) .no) .no) .no))))))))) .no))))) TF.mixed (by kernel_rfl) trivial ?_
  refine auT 1 rfl ?_
  refine zq rfl (fun _ hC => sem_ptrNilT p1 (.inr rfl) false rfl rfl TF.ptr_25 hb10 rfl ⟨rfl, rfl⟩) ?_
  refine auT 2 rfl ?_
  refine ⟨zon rfl ⟨fun _ => trivial, ?_⟩, trivial⟩
  refine auT 7 rfl ?_
  refine RunT.joinJ (t := (.x 14 (.q 15 (.q 16 .nil)) .no)) (fun e h14 => Agree [(8, (.bool false)), (15, (.bool false))] e ∧ S_tome_Tome_Set_J1 B h14 Q) ?_ fun j13 => ?_
  ·rintro e h14 ⟨hag, s⟩
   refine RunT.env hag ?_; clear hag
   refine ⟨zon rfl ⟨fun _ => trivial, ?_⟩, trivial⟩
   refine auT 2 rfl ?_
   exact zr (s.imp fun _ q => ⟨_, rfl, q⟩)
  refine ⟨?_, ?_, trivial⟩
  ·have s := s.1
   refine zon rfl ⟨fun _ => trivial, ?_⟩
   refine ⟨zon rfl ⟨fun _ => trivial, ?_⟩, trivial⟩
   exact j13 _ _ ⟨⟨rfl, rfl, trivial⟩, s⟩
  ·have s := s.2
   refine zon rfl ⟨fun _ => trivial, ?_⟩
   refine ⟨zon rfl ⟨fun _ => trivial, ?_⟩, trivial⟩
   exact j13 _ _ ⟨⟨rfl, rfl, trivial⟩, s⟩
 ·replace s := s.2 hb10
  obtain ⟨b17, s18, hl, s⟩ := s
  have f19 := hl
  refine Run.drawM (fun h' => CellsAt B h' ⟨k7, 0, none⟩ 0 [(.bool b17), (.string s18)] ∧ True) [] ⟨[0, 1, 2, 4, 12, 20, 48, 64, 192, 320, 576, 64, 64, 64, 15424, 16448, 65535], [131071, 131070, 131069, 131067, 131059, 131051, 131039, 131007, 130879, 130751, 130495, 131007, 131007, 131007, 115647, 114623, 98303], [0, 0, 0, 0, 0, 0, 0, 0, 0, 0, 0, 0, 0, 0, 0, 0, 0], 0⟩ (.q 0 (.q 1 (.q 2 (.q 3 (.x 4 (.q 5 (.q 6 (.q 7 (.q 8 (.q 9 (.q 11 (.q 13 (.x 10 (.x 12 (.x 14 (.q 15 (.q 16 .nil)) .no) .no) (.x 12 (.x 10 (.x 14 (.q 15 (.q 16 .nil)) .no) .no) .no))))))))) .no))))) TF.mixed (by kernel_rfl) ⟨f19, trivial⟩ ?_
  refine auT 1 rfl ?_
  refine zq rfl (fun _ hC => sem_ptrNilF p1 (.inr rfl) true rfl rfl TF.ptr_25 hb10 rfl ⟨rfl, rfl⟩) ?_
  refine auT 1 rfl ?_
  refine zq rfl (fun _ hC => sem_loadN ⟨k7, 0, none⟩ [(.bool b17), (.string s18)] rfl TF.agg_41 TF.sz_41 hC.1 ⟨rfl, rfl⟩) ?_
  refine ⟨zo rfl (sem_callL [(.agg #[(.bool b17), (.string s18)])] (TF.goes_114) rfl rfl (Spec.mono s fun v h20 hv => ?_)), trivial⟩
  obtain ⟨b21, rfl, s⟩ := hv
  cases b21
  ·replace s := s.2 rfl
   obtain ⟨g22, s⟩ := s
   refine ⟨fun _ => ⟨g22, trivial⟩, ?_⟩
   refine auT 7 rfl ?_
   refine RunT.joinJ (t := (.x 14 (.q 15 (.q 16 .nil)) .no)) (fun e h24 => Agree [(8, (.bool false)), (15, (.bool false))] e ∧ CellsAt B h24 ⟨k7, 0, none⟩ 0 [(.bool b17), (.string s18)] ∧ S_tome_Tome_Set_J2 B k7 b17 s18 h24 Q) ?_ fun j23 => ?_
   ·rintro e h24 ⟨hag, g25, s⟩
    refine RunT.env hag ?_; clear hag
    refine ⟨zon rfl ⟨fun _ => ⟨g25, trivial⟩, ?_⟩, trivial⟩
    refine auT 2 rfl ?_
    exact zr (s.imp fun _ q => ⟨_, rfl, q⟩)
   refine ⟨?_, ?_, trivial⟩
   ·have s := s.1
    refine zon rfl ⟨fun _ => ⟨g22, trivial⟩, ?_⟩
    refine ⟨zon rfl ⟨fun _ => ⟨g22, trivial⟩, ?_⟩, trivial⟩
    exact j23 _ _ ⟨⟨rfl, rfl, trivial⟩, g22, s⟩
   ·have s := s.2
    refine zon rfl ⟨fun _ => ⟨g22, trivial⟩, ?_⟩
    refine ⟨zon rfl ⟨fun _ => ⟨g22, trivial⟩, ?_⟩, trivial⟩
    exact j23 _ _ ⟨⟨rfl, rfl, trivial⟩, g22, s⟩
  ·replace s := s.1 rfl
   obtain ⟨g26, s⟩ := s
   refine ⟨fun _ => ⟨g26, trivial⟩, ?_⟩
   refine auT 3 rfl ?_
   obtain ⟨A27, e28, s⟩ := s
   refine zq rfl (fun _ _ => sem_nilCheck A27 (congrArg Value.pointer e28) ⟨rfl, rfl⟩) ?_
   refine auT 3 rfl ?_
   refine RunT.joinJ (t := (.x 14 (.q 15 (.q 16 .nil)) .no)) (fun e h39 => ∃ p36 : Option Addr, ∃ b37 : Bool, ∃ s38 : ByteArray, Agree [(8, (.bool false)), (15, (.bool true)), (19, (.pointer p36)), (20, (.int .i64 (i2))), (21, (.agg #[(.bool b37), (.string s38)])), (22, (.int .i64 (i5)))] e ∧ CellsAt B h39 ⟨k7, 0, none⟩ 0 [(.bool b17), (.string s18)] ∧ S_tome_Tome_Set_J3 B i2 i5 k7 b17 s18 p36 b37 s38 h39 Q) ?_ fun j35 => ?_
   ·rintro e h39 ⟨p36, b37, s38, hag, g40, s⟩
    refine RunT.env hag ?_; clear hag
    refine ⟨zo rfl (sem_callL [(.pointer p36), (.int .i64 (i2)), (.agg #[(.bool b37), (.string s38)]), (.int .i64 (i5))] (TF.goes_115) rfl rfl (Spec.mono s fun v h41 hv => ?_)), trivial⟩
    obtain ⟨b42, rfl, s⟩ := hv
    obtain ⟨g43, s⟩ := s
    refine ⟨fun _ => ⟨g43, trivial⟩, ?_⟩
    refine auT 2 rfl ?_
    exact zr (s.imp fun _ q => ⟨_, rfl, q⟩)
   refine ⟨?_, ?_, trivial⟩
   ·have s := s.1
    obtain ⟨p44, hl, s⟩ := s
    refine zo rfl (sem_load1 A27 ((.pointer p44)) rfl TF.agg_110 hl ?_)
    refine ⟨fun _ => ⟨g26, trivial⟩, ?_⟩
    obtain ⟨b45, s46, hl, s⟩ := s
    refine ⟨zo rfl (sem_loadN ⟨k7, 0, none⟩ [(.bool b45), (.string s46)] rfl TF.agg_41 TF.sz_41 hl ?_), trivial⟩
    refine ⟨fun _ => ⟨g26, trivial⟩, ?_⟩
    exact j35 _ _ ⟨p44, (b45), s46, ⟨rfl, rfl, rfl, rfl, rfl, rfl, trivial⟩, g26, s⟩
   ·have s := s.2
    obtain ⟨b47, s48, hl, s⟩ := s
    refine zo rfl (sem_loadN ⟨k7, 0, none⟩ [(.bool b47), (.string s48)] rfl TF.agg_41 TF.sz_41 hl ?_)
    refine ⟨fun _ => ⟨g26, trivial⟩, ?_⟩
    obtain ⟨p49, hl, s⟩ := s
    refine ⟨zo rfl (sem_load1 A27 ((.pointer p49)) rfl TF.agg_110 hl ?_), trivial⟩
    refine ⟨fun _ => ⟨g26, trivial⟩, ?_⟩
    exact j35 _ _ ⟨p49, (b47), s48, ⟨rfl, rfl, rfl, rfl, rfl, rfl, trivial⟩, g26, s⟩
theorem C_countermandref14_Sheet_Write.of {B : RO} {p1 : Option Addr} {i2 : Int} {i3 : Int} {i4 : Int} {h : Heap} {Q : Bool → Heap → Prop} (s : S_countermandref14_Sheet_Write B p1 i2 i3 i4 h Q) : C_countermandref14_Sheet_Write B p1 i2 i3 i4 h Q := by
 refine zspec Try.func86 [ResultVar.tmp 8] rfl rfl rfl rfl rfl ?_
 refine au 8 rfl ?_
 refine zcall s rfl rfl TF.goes_44 ?_
 rintro _ h6 ⟨b7, rfl, s⟩
 cases b7
 ·replace s := s.2 rfl
  refine au 6 rfl ?_
  refine zcall s rfl rfl TF.goes_44 ?_
  rintro _ h8 ⟨b9, rfl, s⟩
  refine au 2 rfl ?_
  exact zr (s.imp fun _ q => ⟨_, rfl, q⟩)
 ·replace s := s.1 rfl
  refine au 7 rfl ?_
  refine znil s rfl rfl fun A10 s => ?_
  refine au 1 rfl ?_
  obtain ⟨hi0, hi1, s⟩ := s
  refine zg rfl (sem_indexAddrA (Addr.add A10 12) .i64 (i2) rfl rfl TF.arr_77 hi0 hi1 ?_)
  obtain ⟨b12, s13, hl, s⟩ := s
  refine zn hl rfl rfl TF.agg_76 TF.sz_76 rfl ?_
  refine au 2 rfl ?_
  refine zcall s rfl rfl TF.goes_117 ?_
  rintro _ h14 ⟨b15, s16, rfl, s⟩
  refine zcall s rfl rfl TF.goes_116 ?_
  rintro _ h17 ⟨rfl, s⟩
  refine au 4 rfl ?_
  refine zcall s rfl rfl TF.goes_44 ?_
  rintro _ h18 ⟨b19, rfl, s⟩
  refine au 2 rfl ?_
  exact zr (s.imp fun _ q => ⟨_, rfl, q⟩)
theorem C_countermandref14_Sheet_Cut.of {B : RO} {p1 : Option Addr} {i2 : Int} {i3 : Int} {h : Heap} {Q : Bool → Heap → Prop} (s : S_countermandref14_Sheet_Cut B p1 i2 i3 h Q) : C_countermandref14_Sheet_Cut B p1 i2 i3 h Q := by
 refine zspec Try.func87 [ResultVar.tmp 6] rfl rfl rfl rfl rfl ?_
 refine au 8 rfl ?_
 refine zcall s rfl rfl TF.goes_44 ?_
 rintro _ h5 ⟨b6, rfl, s⟩
 cases b6
 ·replace s := s.2 rfl
  refine au 6 rfl ?_
  refine zcall s rfl rfl TF.goes_44 ?_
  rintro _ h7 ⟨b8, rfl, s⟩
  refine au 2 rfl ?_
  exact zr (s.imp fun _ q => ⟨_, rfl, q⟩)
 ·replace s := s.1 rfl
  refine au 7 rfl ?_
  refine znil s rfl rfl fun A9 s => ?_
  refine au 1 rfl ?_
  obtain ⟨hi0, hi1, s⟩ := s
  refine zg rfl (sem_indexAddrA (Addr.add A9 12) .i64 (i2) rfl rfl TF.arr_77 hi0 hi1 ?_)
  obtain ⟨b11, s12, hl, s⟩ := s
  refine zn hl rfl rfl TF.agg_76 TF.sz_76 rfl ?_
  refine au 1 rfl ?_
  refine zcall s rfl rfl TF.goes_118 ?_
  rintro _ h13 ⟨b14, s15, rfl, s⟩
  refine zcall s rfl rfl TF.goes_116 ?_
  rintro _ h16 ⟨rfl, s⟩
  refine au 4 rfl ?_
  refine zcall s rfl rfl TF.goes_44 ?_
  rintro _ h17 ⟨b18, rfl, s⟩
  refine au 2 rfl ?_
  exact zr (s.imp fun _ q => ⟨_, rfl, q⟩)
theorem C_countermandref14_Sheet_Create.of {B : RO} {p1 : Option Addr} {i2 : Int} {h : Heap} {Q : Bool → Heap → Prop} (s : S_countermandref14_Sheet_Create B p1 i2 h Q) : C_countermandref14_Sheet_Create B p1 i2 h Q := by
 refine zspec Try.func88 [ResultVar.tmp 4] rfl rfl rfl rfl rfl ?_
 refine au 8 rfl ?_
 refine zcall s rfl rfl TF.goes_44 ?_
 rintro _ h4 ⟨b5, rfl, s⟩
 cases b5
 ·replace s := s.2 rfl
  refine au 6 rfl ?_
  refine zcall s rfl rfl TF.goes_44 ?_
  rintro _ h6 ⟨b7, rfl, s⟩
  refine au 2 rfl ?_
  exact zr (s.imp fun _ q => ⟨_, rfl, q⟩)
 ·replace s := s.1 rfl
  refine au 7 rfl ?_
  refine znil s rfl rfl fun A8 s => ?_
  refine au 1 rfl ?_
  obtain ⟨hi0, hi1, s⟩ := s
  refine zg rfl (sem_indexAddrA (Addr.add A8 12) .i64 (i2) rfl rfl TF.arr_77 hi0 hi1 ?_)
  refine au 1 rfl ?_
  refine zl s rfl rfl TF.agg_9 fun s10 s => ?_
  refine zg rfl (sem_buildSL [(0, (.bool true)), (1, (.string s10))] [(.bool true), (.string s10)] TF.zero_76 TF.places_76 rfl rfl ?_)
  refine zcall s rfl rfl TF.goes_116 ?_
  rintro _ h11 ⟨rfl, s⟩
  refine au 4 rfl ?_
  refine zcall s rfl rfl TF.goes_44 ?_
  rintro _ h12 ⟨b13, rfl, s⟩
  refine au 2 rfl ?_
  exact zr (s.imp fun _ q => ⟨_, rfl, q⟩)
theorem C_countermandref14_Sheet_Remove.of {B : RO} {p1 : Option Addr} {i2 : Int} {h : Heap} {Q : Bool → Heap → Prop} (s : S_countermandref14_Sheet_Remove B p1 i2 h Q) : C_countermandref14_Sheet_Remove B p1 i2 h Q := by
 refine zspec Try.func89 [ResultVar.tmp 4] rfl rfl rfl rfl rfl ?_
 refine au 8 rfl ?_
 refine zcall s rfl rfl TF.goes_44 ?_
 rintro _ h4 ⟨b5, rfl, s⟩
 cases b5
 ·replace s := s.2 rfl
  refine au 6 rfl ?_
  refine zcall s rfl rfl TF.goes_44 ?_
  rintro _ h6 ⟨b7, rfl, s⟩
  refine au 2 rfl ?_
  exact zr (s.imp fun _ q => ⟨_, rfl, q⟩)
 ·replace s := s.1 rfl
  refine au 5 rfl ?_
  refine zg rfl (sem_buildSL [] [(.bool false), (.string ByteArray.empty)] TF.zero_76 TF.places_76 rfl rfl ?_)
  refine zcall s rfl rfl TF.goes_116 ?_
  rintro _ h8 ⟨rfl, s⟩
  refine au 4 rfl ?_
  refine zcall s rfl rfl TF.goes_44 ?_
  rintro _ h9 ⟨b10, rfl, s⟩
  refine au 2 rfl ?_
  exact zr (s.imp fun _ q => ⟨_, rfl, q⟩)
theorem C_countermandref14_Sheet_Rename.of {B : RO} {p1 : Option Addr} {i2 : Int} {i3 : Int} {h : Heap} {Q : Bool → Heap → Prop} (s : S_countermandref14_Sheet_Rename B p1 i2 i3 h Q) : C_countermandref14_Sheet_Rename B p1 i2 i3 h Q := by
 refine zspec Try.func90 [ResultVar.tmp 6] rfl rfl rfl rfl rfl ?_
 refine au 4 rfl ?_
 refine Run.seqJ (fun e h6 => Agree [(0, (.pointer p1)), (1, (.int .i64 (i2))), (2, (.int .i64 (i3)))] e ∧ S_countermandref14_Sheet_Rename_J1 B p1 i2 i3 h6 Q) ?_ fun j5 => ?_
 ·rintro e h6 ⟨hag, s⟩
  refine Run.env hag ?_; clear hag
  refine au 1 rfl ?_
  refine Run.seqJ (fun e h9 => ∃ b8 : Bool, Agree [(0, (.pointer p1)), (1, (.int .i64 (i2))), (2, (.int .i64 (i3))), (26, (.bool b8))] e ∧ S_countermandref14_Sheet_Rename_J2 B p1 i2 i3 b8 h9 Q) ?_ fun j7 => ?_
  ·rintro e h9 ⟨b8, hag, s⟩
   refine Run.env hag ?_; clear hag
   cases b8
   ·replace s := s.2 rfl
    refine au 6 rfl ?_
    exact zr (s.imp fun _ q => ⟨_, rfl, q⟩)
   ·replace s := s.1 rfl
    refine au 7 rfl ?_
    refine znil s rfl rfl fun A10 s => ?_
    refine au 1 rfl ?_
    obtain ⟨hi0, hi1, s⟩ := s
    refine zg rfl (sem_indexAddrA (Addr.add A10 12) .i64 (i2) rfl rfl TF.arr_77 hi0 hi1 ?_)
    obtain ⟨b12, s13, hl, s⟩ := s
    refine zn hl rfl rfl TF.agg_76 TF.sz_76 rfl ?_
    refine zcall s rfl rfl TF.goes_116 ?_
    rintro _ h14 ⟨rfl, s⟩
    refine au 4 rfl ?_
    refine zg rfl (sem_buildSL [] [(.bool false), (.string ByteArray.empty)] TF.zero_76 TF.places_76 rfl rfl ?_)
    refine zcall s rfl rfl TF.goes_116 ?_
    rintro _ h15 ⟨rfl, s⟩
    refine au 5 rfl ?_
    exact zr (s.imp fun _ q => ⟨_, rfl, q⟩)
  refine au 3 rfl ?_
  refine znil s rfl rfl fun A16 s => ?_
  refine au 1 rfl ?_
  obtain ⟨hi0, hi1, s⟩ := s
  refine zg rfl (sem_indexAddrA (Addr.add A16 12) .i64 (i2) rfl rfl TF.arr_77 hi0 hi1 ?_)
  refine au 1 rfl ?_
  refine zl s rfl rfl TF.agg_4 fun b18 s => ?_
  cases b18
  ·replace s := s.2 rfl
   refine au 6 rfl ?_
   exact Run.of_fin (s.imp fun h' s => j7 _ _ ⟨(false), ⟨rfl, rfl, rfl, rfl, trivial⟩, s⟩)
  ·replace s := s.1 rfl
   refine au 3 rfl ?_
   refine zu s rfl rfl rfl binI_neq_t binI_neq_f (fun s => ?_) fun s => ?_
   ·refine au 2 rfl ?_
    exact Run.of_fin (s.imp fun h' s => j7 _ _ ⟨(false), ⟨rfl, rfl, rfl, rfl, trivial⟩, s⟩)
   ·refine au 2 rfl ?_
    exact Run.of_fin (s.imp fun h' s => j7 _ _ ⟨(true), ⟨rfl, rfl, rfl, rfl, trivial⟩, s⟩)
 refine au 3 rfl ?_
 refine zcall s rfl rfl TF.goes_44 ?_
 rintro _ h19 ⟨b20, rfl, s⟩
 cases b20
 ·replace s := s.2 rfl
  refine au 12 rfl ?_
  exact zr (s.imp fun _ q => ⟨_, rfl, q⟩)
 ·replace s := s.1 rfl
  refine au 3 rfl ?_
  refine zcall s rfl rfl TF.goes_44 ?_
  rintro _ h21 ⟨b22, rfl, s⟩
  cases b22
  ·replace s := s.2 rfl
   refine au 8 rfl ?_
   exact zr (s.imp fun _ q => ⟨_, rfl, q⟩)
  ·replace s := s.1 rfl
   refine au 5 rfl ?_
   exact Run.of_fin (s.imp fun h' s => j5 _ _ ⟨⟨rfl, rfl, rfl, trivial⟩, s⟩)
theorem C_cell_Row_file_File_Get.of {B : RO} {p1 : Option Addr} {i2 : Int} {h : Heap} {Q : Bool → ByteArray → Int → Heap → Prop} (s : S_cell_Row_file_File_Get B p1 i2 h Q) : C_cell_Row_file_File_Get B p1 i2 h Q := by
 refine zspec Try.func92 [ResultVar.cell 4 41, ResultVar.tmp 5] rfl rfl rfl rfl rfl ?_
 refine au 2 rfl ?_
 refine zal s rfl TF.zero_41 rfl fun k6 h7 s => ?_
 refine au 7 rfl ?_
 refine zcall s rfl rfl TF.goes_120 ?_
 rintro _ h8 ⟨b9, rfl, s⟩
 cases b9
 ·replace s := s.2 rfl
  refine au 5 rfl ?_
  refine zal s rfl TF.zero_41 rfl fun k10 h11 s => ?_
  refine au 3 rfl ?_
  obtain ⟨b12, s13, hl, s⟩ := s
  refine zn hl rfl rfl TF.agg_41 TF.sz_41 rfl ?_
  refine zsn s rfl rfl rfl TF.sz_41 rfl fun h14 s => ?_
  refine au 2 rfl ?_
  obtain ⟨b15, s16, hl0, s⟩ := s
  exact zr (⟨⟨k6, 0, none⟩, (.agg #[(.bool b15), (.string s16)]), rfl, loadHN TF.agg_41 TF.sz_41 hl0, s.imp fun _ q => ⟨_, _, _, rfl, q⟩⟩)
 ·replace s := s.1 rfl
  refine au 5 rfl ?_
  obtain ⟨A18, e19, s⟩ := s
  obtain ⟨a22, n23, c24, hl, s⟩ := s
  have f25 := hl
  obtain ⟨A27, e28, hi0, hi1, s⟩ := s
  have f30 := hi0; have f31 := hi1
  obtain ⟨b33, s34, hl, s⟩ := s
  have f35 := hl
  obtain ⟨A37, e38, s⟩ := s
  obtain ⟨a41, n42, c43, hl, s⟩ := s
  have f44 := hl
  obtain ⟨A46, e47, hi0, hi1, s⟩ := s
  have f49 := hi0; have f50 := hi1
  obtain ⟨i52, hl, s⟩ := s
  have f53 := hl
  refine Run.drawM (fun h' => cellH B h' A18 = some (.slice a22 n23 c24) ∧ CellsAt B h' (Addr.add A27 (Int.toNat (i2) * 3)) 0 [(.bool b33), (.string s34)] ∧ cellH B h' A37 = some (.slice a41 n42 c43) ∧ cellH B h' (Addr.add (Addr.add A46 (Int.toNat (i2) * 3)) 2) = some (.int .i64 (i52)) ∧ True) [] ⟨[0, 1, 2, 4, 0, 24, 32, 64, 0, 256, 512, 1024, 0, 6144, 8192, 16384, 255, 131071], [262143, 262142, 262141, 262139, 262143, 262119, 262111, 262079, 262143, 261887, 261631, 261119, 262143, 255999, 253951, 245759, 262015, 229375], [0, 0, 0, 0, 0, 0, 0, 0, 0, 0, 0, 0, 0, 0, 0, 0, 0, 0], 0⟩ (.q 0 (.q 1 (.q 2 (.q 3 (.q 4 (.q 5 (.q 6 (.q 7 (.q 8 (.q 9 (.q 10 (.q 11 (.q 12 (.q 13 (.q 14 (.q 15 (.x 16 (.q 17 .nil) .no))))))))))))))))) TF.mixed (by kernel_rfl) ⟨f25, f35, f44, f53, trivial⟩ ?_
  refine auT 1 rfl ?_
  refine zq rfl (fun _ hC => sem_nilCheck A18 (congrArg Value.pointer e19) ⟨rfl, rfl⟩) ?_
  refine auT 1 rfl ?_
  refine zq rfl (fun _ hC => sem_load1 A18 ((.slice a22 n23 c24)) rfl TF.agg_166 hC.1 ⟨rfl, rfl⟩) ?_
  refine auT 1 rfl ?_
  refine zq rfl (fun _ hC => sem_indexAddrS A27 n23 c24 .i64 (i2) (congrArg (fun a => Value.slice a n23 c24) e28) rfl TF.slc_166 f30 f31 ⟨rfl, rfl⟩) ?_
  refine auT 1 rfl ?_
  refine zq rfl (fun _ hC => sem_loadN (Addr.add A27 (Int.toNat (i2) * 3)) [(.bool b33), (.string s34)] rfl TF.agg_41 TF.sz_41 hC.2.1 ⟨rfl, rfl⟩) ?_
  refine auT 1 rfl ?_
  refine zq rfl (fun _ hC => sem_nilCheck A37 (congrArg Value.pointer e38) ⟨rfl, rfl⟩) ?_
  refine auT 1 rfl ?_
  refine zq rfl (fun _ hC => sem_load1 A37 ((.slice a41 n42 c43)) rfl TF.agg_166 hC.2.2.1 ⟨rfl, rfl⟩) ?_
  refine auT 1 rfl ?_
  refine zq rfl (fun _ hC => sem_indexAddrS A46 n42 c43 .i64 (i2) (congrArg (fun a => Value.slice a n42 c43) e47) rfl TF.slc_166 f49 f50 ⟨rfl, rfl⟩) ?_
  refine auT 1 rfl ?_
  refine zq rfl (fun _ hC => sem_load1 (Addr.add (Addr.add A46 (Int.toNat (i2) * 3)) 2) ((.int .i64 (i52))) rfl TF.agg_3 hC.2.2.2.1 ⟨rfl, rfl⟩) ?_
  obtain ⟨h54, hst, s⟩ := s
  refine ⟨zo0 rfl (sem_storeN ⟨k6, 0, none⟩ [(.bool b33), (.string s34)] h54 rfl rfl TF.sz_41 hst ?_), trivial⟩
  obtain ⟨g55, g56, g57, g58, s⟩ := s
  refine ⟨fun _ => ⟨g55, g56, g57, g58, trivial⟩, ?_⟩
  refine auT 1 rfl ?_
  obtain ⟨b59, s60, hl0, s⟩ := s
  exact zr (⟨⟨k6, 0, none⟩, (.agg #[(.bool b59), (.string s60)]), rfl, loadHN TF.agg_41 TF.sz_41 hl0, s.imp fun _ q => ⟨_, _, _, rfl, q⟩⟩)
theorem C_tome_Tome_All.of {B : RO} {p1 : Option Addr} {h : Heap} {Q : Value → Heap → Prop} (s : S_tome_Tome_All B p1 h Q) : C_tome_Tome_All B p1 h Q := by
 refine zspec Try.func93 [ResultVar.tmp 2] rfl rfl rfl rfl rfl ?_
 refine au 2 rfl ?_
 refine zb1 s rfl rfl rfl rfl fun k3 h4 s => ?_
 refine au 7 rfl ?_
 exact zr (s.imp fun _ q => ⟨_, rfl, q⟩)
theorem C_stylus_Stylus_Text.of {B : RO} {p1 : Option Addr} {a2 : Option Addr} {n3 : Nat} {c4 : Nat} {h : Heap} {Q : Heap → Prop} (s : S_stylus_Stylus_Text B p1 a2 n3 c4 h Q) : C_stylus_Stylus_Text B p1 a2 n3 c4 h Q := by
 refine zspec Try.func94 [] rfl rfl rfl rfl rfl ?_
 refine au 3 rfl ?_
 refine zg rfl (sem_lenSl a2 n3 c4 rfl TF.sl_45 ?_)
 refine au 3 rfl ?_
 obtain ⟨J10, m8, h0, s⟩ := s
 refine Run.of_fin (h0.imp fun h' h0 => ?_)
 refine Run.loop (σ := Int × Nat) (fun x e h => J10 x.1 x.2 h ∧ Agree [(0, (.pointer p1)), (6, (.slice a2 n3 c4)), (7, (.int .i64 ((n3 : Nat)))), (8, (.int .i64 (x.1)))] e) (fun x => x.2) ((0), m8) ⟨h0, ⟨rfl, rfl, rfl, rfl, trivial⟩⟩ ?_; clear h0
 rintro ⟨i5, m7⟩ e h6 ⟨hJ, hag⟩ ih9
 have s := s i5 m7 h6 hJ; clear hJ
 refine Run.env hag ?_; clear hag
 refine au 2 rfl ?_
 refine zt s rfl rfl rfl binI_lss_t binI_lss_f (fun s => ?_) fun s => ?_
 ·refine au 8 rfl ?_
  obtain ⟨A11, e12, hi0, hi1, s⟩ := s
  refine zg rfl (sem_indexAddrS A11 n3 c4 .i64 (i5) (congrArg (fun a => Value.slice a n3 c4) e12) rfl TF.slc_45 hi0 hi1 ?_)
  refine zl s rfl rfl TF.agg_9 fun s13 s => ?_
  refine au 6 rfl ?_
  refine zg rfl (sem_lenStr s13 rfl TF.isStr_9 ?_)
  refine zg rfl (sem_buildSliceL [(0, (.int .i64 ((ByteArray.size s13 : Nat))))] [(.int .i64 ((ByteArray.size s13 : Nat)))] TF.slc_184 TF.zero_3 rfl (by decide) (by decide) rfl rfl (fun k14 hb1 hb2 h15 hb3 => ?_))
  have s := s k14 hb1 hb2 h15 hb3
  refine zcall s rfl rfl TF.goes_72 ?_
  rintro _ h16 ⟨rfl, s⟩
  refine au 4 rfl ?_
  refine zcall s rfl rfl TF.goes_73 ?_
  rintro _ h17 ⟨rfl, s⟩
  refine au 6 rfl ?_
  exact Run.of_fin (s.imp fun h' ⟨m', hm, s⟩ => ih9 ((IntKind.wrap .i64 ((i5) + (1))), m') _ _ ⟨s, ⟨rfl, rfl, rfl, rfl, trivial⟩⟩ hm)
 ·refine au 4 rfl ?_
  exact zf (s.imp fun _ q => ⟨rfl, q⟩)
theorem C_draft_Draft_file_File_All_1.of {B : RO} {v1 : Value} {A2 : Addr} {h : Heap} {Q : Heap → Prop} (s : S_draft_Draft_file_File_All_1 B v1 A2 h Q) : C_draft_Draft_file_File_All_1 B v1 A2 h Q := by
 refine zspec Try.func95 [] rfl rfl rfl rfl rfl ?_
 refine au 3 rfl ?_
 refine zl s rfl rfl TF.agg_95 fun p3 s => ?_
 by_cases hb4 : p3 = none
 ·replace s := s.1 hb4
  refine zg rfl (sem_ptrNilT p3 (.inl rfl) true rfl rfl TF.ptr_95 hb4 rfl ?_)
  refine au 2 rfl ?_
  exact zr (s.imp fun _ q => ⟨rfl, q⟩)
 ·replace s := s.2 hb4
  refine zg rfl (sem_ptrNilF p3 (.inl rfl) false rfl rfl TF.ptr_95 hb4 rfl ?_)
  refine au 5 rfl ?_
  refine zl s rfl rfl TF.agg_95 fun p5 s => ?_
  refine znil s rfl rfl fun A6 s => ?_
  refine au 1 rfl ?_
  refine Run.ldSl s fun a8 n9 c10 h11 hl s => ?_
  refine zg rfl (sem_load1 A6 ((.slice a8 n9 c10)) rfl TF.agg_158 hl ?_)
  refine zg rfl (sem_lenSl a8 n9 c10 rfl TF.sl_158 ?_)
  refine au 3 rfl ?_
  obtain ⟨J17, m15, h0, s⟩ := s
  refine Run.of_fin (h0.imp fun h' h0 => ?_)
  refine Run.loop (σ := Int × Nat) (fun x e h => J17 x.1 x.2 h ∧ Agree [(0, v1), (10, (.slice a8 n9 c10)), (11, (.int .i64 ((n9 : Nat)))), (12, (.int .i64 (x.1)))] e) (fun x => x.2) ((0), m15) ⟨h0, ⟨rfl, rfl, rfl, rfl, trivial⟩⟩ ?_; clear h0
  rintro ⟨i12, m14⟩ e h13 ⟨hJ, hag⟩ ih16
  have s := s i12 m14 h13 hJ; clear hJ
  refine Run.env hag ?_; clear hag
  refine au 2 rfl ?_
  refine zt s rfl rfl rfl binI_lss_t binI_lss_f (fun s => ?_) fun s => ?_
  ·refine au 8 rfl ?_
   obtain ⟨A18, e19, hi0, hi1, s⟩ := s
   refine zg rfl (sem_indexAddrS A18 n9 c10 .i64 (i12) (congrArg (fun a => Value.slice a n9 c10) e19) rfl TF.slc_158 hi0 hi1 ?_)
   obtain ⟨i20, b21, s22, hl, s⟩ := s
   refine zn hl rfl rfl TF.agg_162 TF.sz_162 rfl ?_
   refine zal s rfl TF.zero_162 rfl fun k23 h24 s => ?_
   refine zsn s rfl rfl rfl TF.sz_162 rfl fun h25 s => ?_
   refine au 5 rfl ?_
   refine zl s rfl rfl TF.agg_3 fun i26 s => ?_
   refine au 1 rfl ?_
   obtain ⟨b27, s28, hl, s⟩ := s
   refine zn hl rfl rfl TF.agg_41 TF.sz_41 rfl ?_
   refine zg rfl (sem_callV (v1) [(.int .i64 (i26)), (.agg #[(.bool b27), (.string s28)])] rfl rfl s (fun nx h' ha => ha.mono fun v h29 hv => ?_))
   obtain ⟨b30, rfl, s⟩ := hv
   cases b30
   ·replace s := s.2 rfl
    refine au 3 rfl ?_
    exact zr (s.imp fun _ q => ⟨rfl, q⟩)
   ·replace s := s.1 rfl
    refine au 9 rfl ?_
    exact Run.of_fin (s.imp fun h' ⟨m', hm, s⟩ => ih16 ((IntKind.wrap .i64 ((i12) + (1))), m') _ _ ⟨s, ⟨rfl, rfl, rfl, rfl, trivial⟩⟩ hm)
  ·refine au 4 rfl ?_
   exact zf (s.imp fun _ q => ⟨rfl, q⟩)
theorem C_file_Put.of {B : RO} {b1 : Bool} {s2 : ByteArray} {i3 : Int} {i4 : Int} {h : Heap} {Q : Bool → ByteArray → Heap → Prop} (s : S_file_Put B b1 s2 i3 i4 h Q) : C_file_Put B b1 s2 i3 i4 h Q := by
 refine zspec Try.func96 [ResultVar.cell 6 41] rfl rfl rfl rfl rfl ?_
 refine au 2 rfl ?_
 refine zbn s rfl rfl rfl fun k7 h8 s => ?_
 refine zal s rfl TF.zero_41 rfl fun k9 h10 s => ?_
 refine au 1 rfl ?_
 refine Run.seqJ (fun e h12 => Agree [(1, (.int .i64 (i3))), (2, (.int .u8 (i4))), (3, (.pointer (some ⟨k7, 0, none⟩))), (6, (.pointer (some ⟨k9, 0, none⟩)))] e ∧ S_file_Put_J1 B i3 i4 k7 k9 h12 Q) ?_ fun j11 => ?_
 ·rintro e h12 ⟨hag, s⟩
  refine Run.env hag ?_; clear hag
  refine au 3 rfl ?_
  refine zl s rfl rfl TF.agg_9 fun s13 s => ?_
  refine zg rfl (sem_convW ((.string s13)) rfl (semH_mono (fun v h17 hv => ?_) s))
  obtain ⟨a14, n15, c16, rfl, s⟩ := hv
  refine au 2 rfl ?_
  refine Run.seqJ (fun e h22 => ∃ a19 : Option Addr, ∃ n20 : Nat, ∃ c21 : Nat, Agree [(1, (.int .i64 (i3))), (2, (.int .u8 (i4))), (6, (.pointer (some ⟨k9, 0, none⟩))), (7, (.slice a19 n20 c21))] e ∧ S_file_Put_J2 B i3 i4 k9 a19 n20 c21 h22 Q) ?_ fun j18 => ?_
  ·rintro e h22 ⟨a19, n20, c21, hag, s⟩
   refine Run.env hag ?_; clear hag
   refine au 5 rfl ?_
   obtain ⟨A23, e24, hi0, hi1, s⟩ := s
   refine zg rfl (sem_indexAddrS A23 n20 c21 .i64 (i3) (congrArg (fun a => Value.slice a n20 c21) e24) rfl TF.slc_144 hi0 hi1 ?_)
   refine zs1 s rfl rfl rfl rfl TF.sz_5 fun h25 s => ?_
   refine au 4 rfl ?_
   refine zg rfl (sem_convW ((.slice a19 n20 c21)) rfl (semH_mono (fun v h27 hv => ?_) s))
   obtain ⟨s26, rfl, s⟩ := hv
   refine zg rfl (sem_buildSL [(0, (.bool true)), (1, (.string s26))] [(.bool true), (.string s26)] TF.zero_41 TF.places_41 rfl rfl ?_)
   refine zsn s rfl rfl rfl TF.sz_41 rfl fun h28 s => ?_
   refine au 1 rfl ?_
   obtain ⟨b29, s30, hl0, s⟩ := s
   exact zr (⟨⟨k9, 0, none⟩, (.agg #[(.bool b29), (.string s30)]), rfl, loadHN TF.agg_41 TF.sz_41 hl0, s.imp fun _ q => ⟨_, _, rfl, q⟩⟩)
  refine au 1 rfl ?_
  obtain ⟨J38, m36, h0, s⟩ := s
  refine Run.of_fin (h0.imp fun h' h0 => ?_)
  refine Run.loop (σ := (Option Addr) × Nat × Nat × Nat) (fun x e h => J38 x.1 x.2.1 x.2.2.1 x.2.2.2 h ∧ Agree [(1, (.int .i64 (i3))), (2, (.int .u8 (i4))), (6, (.pointer (some ⟨k9, 0, none⟩))), (7, (.slice x.1 x.2.1 x.2.2.1))] e) (fun x => x.2.2.2) (a14, n15, c16, m36) ⟨h0, ⟨rfl, rfl, rfl, rfl, trivial⟩⟩ ?_; clear h0
  rintro ⟨a31, n32, c33, m35⟩ e h34 ⟨hJ, hag⟩ ih37
  have s := s a31 n32 c33 m35 h34 hJ; clear hJ
  refine Run.env hag ?_; clear hag
  refine au 4 rfl ?_
  refine zg rfl (sem_lenSl a31 n32 c33 rfl TF.sl_144 ?_)
  refine au 1 rfl ?_
  refine zt s rfl rfl rfl binI_leq_t binI_leq_f (fun s => ?_) fun s => ?_
  ·refine au 6 rfl ?_
   refine zg rfl (sem_buildSliceL [(0, (.int .u8 (0)))] [(.int .u8 (0))] TF.slc_144 TF.zero_5 rfl (by decide) (by decide) rfl rfl (fun k39 hb1 hb2 h40 hb3 => ?_))
   have s := s k39 hb1 hb2 h40 hb3
   refine zg rfl (sem_appendL [(.slice a31 n32 c33), (.slice (some ⟨k39, 0, none⟩) 1 1)] rfl (semH_mono (fun v h41 hv => ?_) s))
   obtain ⟨a42, n43, c44, rfl, s⟩ := hv
   refine au 3 rfl ?_
   exact Run.of_fin (s.imp fun h' ⟨m', hm, s⟩ => ih37 (a42, n43, c44, m') _ _ ⟨s, ⟨rfl, rfl, rfl, rfl, trivial⟩⟩ hm)
  ·refine au 3 rfl ?_
   exact Run.of_fin (s.imp fun h' s => j18 _ _ ⟨a31, n32, c33, ⟨rfl, rfl, rfl, rfl, trivial⟩, s⟩)
 refine au 3 rfl ?_
 refine zt s rfl rfl rfl binI_lss_t binI_lss_f (fun s => ?_) fun s => ?_
 ·refine au 8 rfl ?_
  obtain ⟨b45, s46, hl, s⟩ := s
  refine zn hl rfl rfl TF.agg_41 TF.sz_41 rfl ?_
  refine zsn s rfl rfl rfl TF.sz_41 rfl fun h47 s => ?_
  refine au 1 rfl ?_
  obtain ⟨b48, s49, hl0, s⟩ := s
  exact zr (⟨⟨k9, 0, none⟩, (.agg #[(.bool b48), (.string s49)]), rfl, loadHN TF.agg_41 TF.sz_41 hl0, s.imp fun _ q => ⟨_, _, rfl, q⟩⟩)
 ·refine au 2 rfl ?_
  refine zt s rfl rfl rfl binI_geq_t binI_geq_f (fun s => ?_) fun s => ?_
  ·refine au 5 rfl ?_
   obtain ⟨b50, s51, hl, s⟩ := s
   refine zn hl rfl rfl TF.agg_41 TF.sz_41 rfl ?_
   refine zsn s rfl rfl rfl TF.sz_41 rfl fun h52 s => ?_
   refine au 1 rfl ?_
   obtain ⟨b53, s54, hl0, s⟩ := s
   exact zr (⟨⟨k9, 0, none⟩, (.agg #[(.bool b53), (.string s54)]), rfl, loadHN TF.agg_41 TF.sz_41 hl0, s.imp fun _ q => ⟨_, _, rfl, q⟩⟩)
  ·refine au 4 rfl ?_
   exact Run.of_fin (s.imp fun h' s => j11 _ _ ⟨⟨rfl, rfl, rfl, rfl, trivial⟩, s⟩)
theorem C_file_Cut.of {B : RO} {b1 : Bool} {s2 : ByteArray} {i3 : Int} {h : Heap} {Q : Bool → ByteArray → Heap → Prop} (s : S_file_Cut B b1 s2 i3 h Q) : C_file_Cut B b1 s2 i3 h Q := by
 refine zspec Try.func97 [ResultVar.cell 4 41] rfl rfl rfl rfl rfl ?_
 refine au 2 rfl ?_
 refine zbn s rfl rfl rfl fun k6 h7 s => ?_
 refine zal s rfl TF.zero_41 rfl fun k8 h9 s => ?_
 refine au 1 rfl ?_
 refine Run.seqJ (fun e h11 => Agree [(1, (.int .i64 (i3))), (2, (.pointer (some ⟨k6, 0, none⟩))), (4, (.pointer (some ⟨k8, 0, none⟩)))] e ∧ S_file_Cut_J1 B i3 k6 k8 h11 Q) ?_ fun j10 => ?_
 ·rintro e h11 ⟨hag, s⟩
  refine Run.env hag ?_; clear hag
  refine au 5 rfl ?_
  refine zl s rfl rfl TF.agg_9 fun s12 s => ?_
  refine zg rfl (sem_lenStr s12 rfl TF.isStr_9 ?_)
  refine zt s rfl rfl rfl binI_leq_t binI_leq_f (fun s => ?_) fun s => ?_
  ·refine au 5 rfl ?_
   refine zl s rfl rfl TF.agg_9 fun s13 s => ?_
   refine au 1 rfl ?_
   obtain ⟨hi0, hi1, hi2, s⟩ := s
   refine zg rfl (sem_sliceStrI s13 (0) (i3) rfl TF.isStr_9 rfl ⟨_, rfl⟩ hi0 hi1 hi2 ?_)
   refine zg rfl (sem_buildSL [(0, (.bool true)), (1, (.string (ByteArray.extract s13 (Int.toNat (0)) (Int.toNat (i3)))))] [(.bool true), (.string (ByteArray.extract s13 (Int.toNat (0)) (Int.toNat (i3))))] TF.zero_41 TF.places_41 rfl rfl ?_)
   refine zsn s rfl rfl rfl TF.sz_41 rfl fun h14 s => ?_
   refine au 1 rfl ?_
   obtain ⟨b15, s16, hl0, s⟩ := s
   exact zr (⟨⟨k8, 0, none⟩, (.agg #[(.bool b15), (.string s16)]), rfl, loadHN TF.agg_41 TF.sz_41 hl0, s.imp fun _ q => ⟨_, _, rfl, q⟩⟩)
  ·refine au 4 rfl ?_
   obtain ⟨s18, hl, s⟩ := s
   have f19 := hl
   obtain ⟨s22, hl, s⟩ := s
   have f23 := hl
   refine Run.drawM (fun h' => cellH B h' ⟨k6, 1, none⟩ = some (.string s18) ∧ cellH B h' ⟨k6, 1, none⟩ = some (.string s22) ∧ True) [10] ⟨[0, 1, 0, 0, 8, 16, 36, 64, 130, 256, 1023], [2047, 2046, 2047, 2047, 2039, 2031, 2011, 1983, 1917, 1791, 1535], [0, 1, 0, 0, 8, 24, 60, 124, 255, 511, 1023], 1024⟩ (.q 0 (.q 1 (.q 2 (.q 3 (.q 4 (.q 5 (.q 6 (.x 7 (.q 8 (.q 9 (.x 10 .nil .no))) .no)))))))) TF.mixed (by kernel_rfl) ⟨f19, f23, trivial⟩ ?_
   refine auT 1 rfl ?_
   refine zq rfl (fun _ hC => sem_load1 ⟨k6, 1, none⟩ ((.string s18)) rfl TF.agg_9 hC.1 ⟨rfl, rfl⟩) ?_
   refine auT 2 rfl ?_
   refine zq rfl (fun _ hC => sem_load1 ⟨k6, 1, none⟩ ((.string s22)) rfl TF.agg_9 hC.2.1 ⟨rfl, rfl⟩) ?_
   refine zq rfl (fun _ hC => sem_lenStr s22 rfl TF.isStr_9 ⟨rfl, rfl⟩) ?_
   refine auT 1 rfl ?_
   refine ⟨zo rfl (sem_callL [(.string (ByteArray.mk #[0])), (.int .i64 (IntKind.wrap .i64 ((i3) - ((ByteArray.size s22 : Nat)))))] (TF.goes_123) rfl rfl (Spec.mono s fun v h26 hv => ?_)), trivial⟩
   obtain ⟨s27, rfl, s⟩ := hv
   obtain ⟨g28, g29, s⟩ := s
   refine ⟨fun _ => ⟨g28, g29, trivial⟩, ?_⟩
   obtain ⟨hi0, s⟩ := s
   refine zq rfl (fun _ _ => sem_strAdd s18 s27 rfl rfl hi0 ⟨rfl, rfl⟩) ?_
   refine zq rfl (fun _ _ => sem_buildSL [(0, (.bool true)), (1, (.string (s18 ++ s27)))] [(.bool true), (.string (s18 ++ s27))] TF.zero_41 TF.places_41 rfl rfl ⟨rfl, rfl⟩) ?_
   obtain ⟨h30, hst, s⟩ := s
   refine ⟨zo0 rfl (sem_storeN ⟨k8, 0, none⟩ [(.bool true), (.string (s18 ++ s27))] h30 rfl rfl TF.sz_41 hst ?_), trivial⟩
   refine ⟨fun hz => Bool.noConfusion hz, ?_⟩
   obtain ⟨b31, s32, hl0, s⟩ := s
   exact zr (⟨⟨k8, 0, none⟩, (.agg #[(.bool b31), (.string s32)]), rfl, loadHN TF.agg_41 TF.sz_41 hl0, s.imp fun _ q => ⟨_, _, rfl, q⟩⟩)
 refine au 3 rfl ?_
 refine zl s rfl rfl TF.agg_4 fun b33 s => ?_
 cases b33
 ·replace s := s.2 rfl
  refine au 13 rfl ?_
  obtain ⟨b34, s35, hl, s⟩ := s
  refine zn hl rfl rfl TF.agg_41 TF.sz_41 rfl ?_
  refine zsn s rfl rfl rfl TF.sz_41 rfl fun h36 s => ?_
  refine au 1 rfl ?_
  obtain ⟨b37, s38, hl0, s⟩ := s
  exact zr (⟨⟨k8, 0, none⟩, (.agg #[(.bool b37), (.string s38)]), rfl, loadHN TF.agg_41 TF.sz_41 hl0, s.imp fun _ q => ⟨_, _, rfl, q⟩⟩)
 ·replace s := s.1 rfl
  refine au 3 rfl ?_
  refine zt s rfl rfl rfl binI_lss_t binI_lss_f (fun s => ?_) fun s => ?_
  ·refine au 9 rfl ?_
   obtain ⟨b39, s40, hl, s⟩ := s
   refine zn hl rfl rfl TF.agg_41 TF.sz_41 rfl ?_
   refine zsn s rfl rfl rfl TF.sz_41 rfl fun h41 s => ?_
   refine au 1 rfl ?_
   obtain ⟨b42, s43, hl0, s⟩ := s
   exact zr (⟨⟨k8, 0, none⟩, (.agg #[(.bool b42), (.string s43)]), rfl, loadHN TF.agg_41 TF.sz_41 hl0, s.imp fun _ q => ⟨_, _, rfl, q⟩⟩)
  ·refine au 3 rfl ?_
   refine zt s rfl rfl rfl binI_gtr_t binI_gtr_f (fun s => ?_) fun s => ?_
   ·refine au 5 rfl ?_
    obtain ⟨b44, s45, hl, s⟩ := s
    refine zn hl rfl rfl TF.agg_41 TF.sz_41 rfl ?_
    refine zsn s rfl rfl rfl TF.sz_41 rfl fun h46 s => ?_
    refine au 1 rfl ?_
    obtain ⟨b47, s48, hl0, s⟩ := s
    exact zr (⟨⟨k8, 0, none⟩, (.agg #[(.bool b47), (.string s48)]), rfl, loadHN TF.agg_41 TF.sz_41 hl0, s.imp fun _ q => ⟨_, _, rfl, q⟩⟩)
   ·refine au 4 rfl ?_
    exact Run.of_fin (s.imp fun h' s => j10 _ _ ⟨⟨rfl, rfl, rfl, trivial⟩, s⟩)
theorem C_draft_Draft_file_File_Put.of {B : RO} {p1 : Option Addr} {i2 : Int} {b3 : Bool} {s4 : ByteArray} {h : Heap} {Q : Bool → Heap → Prop} (s : S_draft_Draft_file_File_Put B p1 i2 b3 s4 h Q) : C_draft_Draft_file_File_Put B p1 i2 b3 s4 h Q := by
 refine zspec Try.func104 [ResultVar.tmp 6] rfl rfl rfl rfl rfl ?_
 refine au 2 rfl ?_
 refine zbn s rfl rfl rfl fun k6 h7 s => ?_
 refine au 6 rfl ?_
 by_cases hb8 : p1 = none
 ·replace s := s.1 hb8
  refine zg rfl (sem_ptrNilT p1 (.inl rfl) true rfl rfl TF.ptr_95 hb8 rfl ?_)
  refine au 6 rfl ?_
  exact zr (s.imp fun _ q => ⟨_, rfl, q⟩)
 ·replace s := s.2 hb8
  refine zg rfl (sem_ptrNilF p1 (.inl rfl) false rfl rfl TF.ptr_95 hb8 rfl ?_)
  refine au 7 rfl ?_
  refine zcall s rfl rfl TF.goes_105 ?_
  rintro _ h9 ⟨i10, b11, rfl, s⟩
  refine au 2 rfl ?_
  cases b11
  ·replace s := s.2 rfl
   refine au 1 rfl ?_
   refine au 9 rfl ?_
   obtain ⟨A14, e15, s⟩ := s
   obtain ⟨a18, n19, c20, hl, s⟩ := s
   have f21 := hl
   obtain ⟨b24, s25, hl, s⟩ := s
   have f26 := hl
   refine Run.drawM (fun h' => cellH B h' A14 = some (.slice a18 n19 c20) ∧ CellsAt B h' ⟨k6, 0, none⟩ 0 [(.bool b24), (.string s25)] ∧ True) [13] ⟨[0, 0, 2, 4, 8, 0, 0, 0, 192, 256, 560, 2047, 4095, 6143], [16383, 16383, 16381, 16379, 16375, 16383, 16383, 16383, 16191, 16127, 15823, 16382, 14335, 11263], [0, 0, 2, 6, 14, 0, 0, 0, 192, 448, 1022, 2047, 4095, 8191], 8192⟩ (.q 0 (.q 1 (.q 2 (.q 3 (.q 4 (.q 5 (.q 6 (.q 7 (.q 8 (.x 9 (.x 10 (.q 11 (.q 12 (.x 13 .nil .no))) .no) .no)))))))))) TF.mixed (by kernel_rfl) ⟨f21, f26, trivial⟩ ?_
   refine auT 2 rfl ?_
   refine zq rfl (fun _ hC => sem_nilCheck A14 (congrArg Value.pointer e15) ⟨rfl, rfl⟩) ?_
   refine auT 1 rfl ?_
   refine zq rfl (fun _ hC => sem_load1 A14 ((.slice a18 n19 c20)) rfl TF.agg_158 hC.1 ⟨rfl, rfl⟩) ?_
   refine auT 2 rfl ?_
   refine zq rfl (fun _ hC => sem_loadN ⟨k6, 0, none⟩ [(.bool b24), (.string s25)] rfl TF.agg_41 TF.sz_41 hC.2.1 ⟨rfl, rfl⟩) ?_
   refine zq rfl (fun _ hC => sem_buildSL [(0, (.int .i64 (i2))), (1, (.agg #[(.bool b24), (.string s25)]))] [(.int .i64 (i2)), (.bool b24), (.string s25)] TF.zero_162 TF.places_162 rfl rfl ⟨rfl, rfl⟩) ?_
   refine ⟨zo rfl (sem_buildSliceL [(0, (.agg #[(.int .i64 (i2)), (.bool b24), (.string s25)]))] [(.int .i64 (i2)), (.bool b24), (.string s25)] TF.slc_158 TF.zero_162 rfl (by decide) (by decide) rfl rfl (fun k28 hb1 hb2 h29 hb3 => ?_)), trivial⟩
   have s := s k28 hb1 hb2 h29 hb3
   obtain ⟨g30, g31, s⟩ := s
   refine ⟨fun _ => ⟨g30, g31, trivial⟩, ?_⟩
   refine ⟨zo rfl (sem_callL [(.slice a18 n19 c20), (.int .i64 (i10)), (.slice (some ⟨k28, 0, none⟩) 1 1)] (TF.goes_125) rfl rfl (Spec.mono s fun v h32 hv => ?_)), trivial⟩
   obtain ⟨a33, n34, c35, rfl, s⟩ := hv
   obtain ⟨g36, g37, s⟩ := s
   refine ⟨fun _ => ⟨g36, g37, trivial⟩, ?_⟩
   obtain ⟨A38, e39, s⟩ := s
   refine zq rfl (fun _ _ => sem_nilCheck A38 (congrArg Value.pointer e39) ⟨rfl, rfl⟩) ?_
   refine auT 1 rfl ?_
   obtain ⟨h40, hst, s⟩ := s
   refine ⟨zo0 rfl (sem_store1 A38 ((.slice a33 n34 c35)) h40 rfl rfl rfl TF.sz_158 hst ?_), trivial⟩
   refine ⟨fun hz => Bool.noConfusion hz, ?_⟩
   refine au 4 rfl ?_
   exact zr (s.imp fun _ q => ⟨_, rfl, q⟩)
  ·replace s := s.1 rfl
   refine au 1 rfl ?_
   refine au 9 rfl ?_
   refine Run.drawM (fun h' => h' = h9) [8] ⟨[0, 1, 2, 4, 0, 0, 63, 127, 191], [511, 510, 509, 507, 511, 511, 487, 447, 351], [0, 1, 3, 7, 0, 0, 63, 127, 255], 256⟩ (.q 0 (.q 1 (.q 2 (.q 3 (.q 4 (.q 5 (.q 6 (.q 7 (.x 8 .nil .no))))))))) TF.mixed (by kernel_rfl) rfl ?_
   refine auT 1 rfl ?_
   obtain ⟨A41, e42, s⟩ := s
   refine zqe rfl (sem_nilCheck A41 (congrArg Value.pointer e42) ⟨rfl, rfl⟩) ?_
   refine auT 1 rfl ?_
   obtain ⟨a43, n44, c45, hl, s⟩ := s
   refine zqe rfl (sem_load1 A41 ((.slice a43 n44 c45)) rfl TF.agg_158 hl ⟨rfl, rfl⟩) ?_
   refine auT 1 rfl ?_
   obtain ⟨b46, s47, hl, s⟩ := s
   refine zqe rfl (sem_loadN ⟨k6, 0, none⟩ [(.bool b46), (.string s47)] rfl TF.agg_41 TF.sz_41 hl ⟨rfl, rfl⟩) ?_
   obtain ⟨A48, e49, hi0, hi1, s⟩ := s
   refine zqe rfl (sem_indexAddrS A48 n44 c45 .i64 (i10) (congrArg (fun a => Value.slice a n44 c45) e49) rfl TF.slc_158 hi0 hi1 ⟨rfl, rfl⟩) ?_
   refine auT 1 rfl ?_
   obtain ⟨h50, hst, s⟩ := s
   refine ⟨zo0 rfl (sem_storeN (Addr.add (Addr.add A48 (Int.toNat (i10) * 3)) 1) [(.bool b46), (.string s47)] h50 rfl rfl TF.sz_41 hst ?_), trivial⟩
   refine ⟨fun hz => Bool.noConfusion hz, ?_⟩
   refine au 4 rfl ?_
   exact zr (s.imp fun _ q => ⟨_, rfl, q⟩)
theorem C_draft_Draft_file_File_find.of {B : RO} {p1 : Option Addr} {i2 : Int} {h : Heap} {Q : Int → Bool → Heap → Prop} (s : S_draft_Draft_file_File_find B p1 i2 h Q) : C_draft_Draft_file_File_find B p1 i2 h Q := by
 refine zspec Try.func105 [ResultVar.tmp 4, ResultVar.tmp 5] rfl rfl rfl rfl rfl ?_
 refine au 8 rfl ?_
 refine znil s rfl rfl fun A5 s => ?_
 refine au 1 rfl ?_
 refine Run.ldSl s fun a7 n8 c9 h10 hl s => ?_
 refine zg rfl (sem_load1 A5 ((.slice a7 n8 c9)) rfl TF.agg_158 hl ?_)
 refine au 1 rfl ?_
 refine zcall s rfl rfl TF.goes_126 ?_
 rintro _ h11 ⟨i12, b13, rfl, s⟩
 refine au 5 rfl ?_
 exact zr (s.imp fun _ q => ⟨_, _, rfl, q⟩)
theorem C_file_Good.of {B : RO} {b1 : Bool} {s2 : ByteArray} {h : Heap} {Q : Bool → Heap → Prop} (s : S_file_Good B b1 s2 h Q) : C_file_Good B b1 s2 h Q := by
 refine zspec Try.func114 [ResultVar.tmp 2] rfl rfl rfl rfl rfl ?_
 refine au 2 rfl ?_
 refine zbn s rfl rfl rfl fun k4 h5 s => ?_
 refine au 5 rfl ?_
 refine zl s rfl rfl TF.agg_9 fun s6 s => ?_
 refine zg rfl (sem_lenStr s6 rfl TF.isStr_9 ?_)
 refine zt s rfl rfl rfl binI_leq_t binI_leq_f (fun s => ?_) fun s => ?_
 ·refine au 2 rfl ?_
  refine zl s rfl rfl TF.agg_4 fun b7 s => ?_
  cases b7
  ·replace s := s.2 rfl
   refine au 2 rfl ?_
   refine zl s rfl rfl TF.agg_9 fun s8 s => ?_
   refine zg rfl (sem_strEq s8 (ByteArray.mk #[]) rfl rfl ?_)
   refine au 4 rfl ?_
   exact zr (s.imp fun _ q => ⟨_, rfl, q⟩)
  ·replace s := s.1 rfl
   refine au 8 rfl ?_
   exact zr (s.imp fun _ q => ⟨_, rfl, q⟩)
 ·refine au 11 rfl ?_
  exact zr (s.imp fun _ q => ⟨_, rfl, q⟩)
theorem C_cell_Row_file_File_Set.of {B : RO} {p1 : Option Addr} {i2 : Int} {b3 : Bool} {s4 : ByteArray} {i5 : Int} {h : Heap} {Q : Bool → Heap → Prop} (s : S_cell_Row_file_File_Set B p1 i2 b3 s4 i5 h Q) : C_cell_Row_file_File_Set B p1 i2 b3 s4 i5 h Q := by
 refine zspec Try.func115 [ResultVar.tmp 8] rfl rfl rfl rfl rfl ?_
 refine au 2 rfl ?_
 refine zbn s rfl rfl rfl fun k7 h8 s => ?_
 refine au 7 rfl ?_
 refine zcall s rfl rfl TF.goes_120 ?_
 rintro _ h9 ⟨b10, rfl, s⟩
 cases b10
 ·replace s := s.2 rfl
  refine au 7 rfl ?_
  exact zr (s.imp fun _ q => ⟨_, rfl, q⟩)
 ·replace s := s.1 rfl
  refine au 5 rfl ?_
  refine Run.drawM (fun h' => h' = h9) [9] ⟨[0, 1, 2, 4, 0, 0, 0, 96, 255, 511], [1023, 1022, 1021, 1019, 1023, 1023, 1023, 927, 999, 639], [0, 1, 3, 7, 0, 0, 0, 96, 255, 511], 512⟩ (.q 0 (.q 1 (.q 2 (.q 3 (.q 4 (.q 5 (.q 6 (.q 7 (.q 8 (.x 9 .nil .no)))))))))) TF.mixed (by kernel_rfl) rfl ?_
  refine auT 1 rfl ?_
  obtain ⟨A11, e12, s⟩ := s
  refine zqe rfl (sem_nilCheck A11 (congrArg Value.pointer e12) ⟨rfl, rfl⟩) ?_
  refine auT 1 rfl ?_
  obtain ⟨a13, n14, c15, hl, s⟩ := s
  refine zqe rfl (sem_load1 A11 ((.slice a13 n14 c15)) rfl TF.agg_166 hl ⟨rfl, rfl⟩) ?_
  refine auT 1 rfl ?_
  obtain ⟨b16, s17, hl, s⟩ := s
  refine zqe rfl (sem_loadN ⟨k7, 0, none⟩ [(.bool b16), (.string s17)] rfl TF.agg_41 TF.sz_41 hl ⟨rfl, rfl⟩) ?_
  refine auT 1 rfl ?_
  refine zqe rfl (sem_buildSL [(0, (.agg #[(.bool b16), (.string s17)])), (1, (.int .i64 (i5)))] [(.bool b16), (.string s17), (.int .i64 (i5))] TF.zero_170 TF.places_170 rfl rfl ⟨rfl, rfl⟩) ?_
  obtain ⟨A18, e19, hi0, hi1, s⟩ := s
  refine zqe rfl (sem_indexAddrS A18 n14 c15 .i64 (i2) (congrArg (fun a => Value.slice a n14 c15) e19) rfl TF.slc_166 hi0 hi1 ⟨rfl, rfl⟩) ?_
  obtain ⟨h20, hst, s⟩ := s
  refine ⟨zo0 rfl (sem_storeN (Addr.add A18 (Int.toNat (i2) * 3)) [(.bool b16), (.string s17), (.int .i64 (i5))] h20 rfl rfl TF.sz_170 hst ?_), trivial⟩
  refine ⟨fun hz => Bool.noConfusion hz, ?_⟩
  refine au 4 rfl ?_
  exact zr (s.imp fun _ q => ⟨_, rfl, q⟩)
end Go.Proofs.Ytcncdfmnpmmikaa.H
namespace Go.Proofs.Ytcncdfmnpmmikaa.H
open Go
set_option linter.unusedVariables false
set_option maxRecDepth 100000
set_option maxHeartbeats 4000000
theorem C_countermandref14_Sheet_put.of {B : RO} {p1 : Option Addr} {i2 : Int} {b3 : Bool} {s4 : ByteArray} {h : Heap} {Q : Heap → Prop} (s : S_countermandref14_Sheet_put B p1 i2 b3 s4 h Q) : C_countermandref14_Sheet_put B p1 i2 b3 s4 h Q := by
 refine zspec Try.func116 [] rfl rfl rfl rfl rfl ?_
 refine au 2 rfl ?_
 refine zbn s rfl rfl rfl fun k5 h6 s => ?_
 refine au 2 rfl ?_
 refine Run.drawM (fun h' => h' = h6) [] ⟨[0, 0, 1, 4, 10, 16, 0, 96], [255, 255, 254, 251, 245, 239, 255, 159], [0, 0, 0, 0, 0, 0, 0, 0], 0⟩ (.q 0 (.q 1 (.q 2 (.q 3 (.q 4 (.q 5 (.q 6 (.q 7 .nil)))))))) TF.mixed (by kernel_rfl) rfl ?_
 refine auT 2 rfl ?_
 obtain ⟨A7, e8, s⟩ := s
 refine zqe rfl (sem_nilCheck A7 (congrArg Value.pointer e8) ⟨rfl, rfl⟩) ?_
 refine auT 1 rfl ?_
 obtain ⟨hi0, hi1, s⟩ := s
 refine zqe rfl (sem_indexAddrA (Addr.add A7 12) .i64 (i2) rfl rfl TF.arr_77 hi0 hi1 ⟨rfl, rfl⟩) ?_
 obtain ⟨b9, s10, hl, s⟩ := s
 refine zqe rfl (sem_loadN (Addr.add (Addr.add A7 12) (Int.toNat (i2) * 2)) [(.bool b9), (.string s10)] rfl TF.agg_76 TF.sz_76 hl ⟨rfl, rfl⟩) ?_
 obtain ⟨b11, s12, hl, s⟩ := s
 refine zqe rfl (sem_loadN ⟨k5, 0, none⟩ [(.bool b11), (.string s12)] rfl TF.agg_76 TF.sz_76 hl ⟨rfl, rfl⟩) ?_
 by_cases hb13 : eqL [(.bool b9), (.string s10)] [(.bool b11), (.string s12)] = true
 ·replace s := s.1 hb13
  refine zqe rfl (sem_aggEq [(.bool b9), (.string s10)] [(.bool b11), (.string s12)] _ (false) (.inr rfl) rfl rfl TF.agg_76 TF.flat_76 TF.eqg_76 ⟨⟨_, rfl⟩, ⟨_, rfl⟩, trivial⟩ ⟨⟨_, rfl⟩, ⟨_, rfl⟩, trivial⟩ (eqLT_neq hb13) ⟨rfl, rfl⟩) ?_
  refine au 2 rfl ?_
  exact zf (s.imp fun _ q => ⟨rfl, q⟩)
 ·replace s := s.2 hb13
  refine zqe rfl (sem_aggEq [(.bool b9), (.string s10)] [(.bool b11), (.string s12)] _ (true) (.inr rfl) rfl rfl TF.agg_76 TF.flat_76 TF.eqg_76 ⟨⟨_, rfl⟩, ⟨_, rfl⟩, trivial⟩ ⟨⟨_, rfl⟩, ⟨_, rfl⟩, trivial⟩ (eqLF_neq hb13) ⟨rfl, rfl⟩) ?_
  refine au 2 rfl ?_
  refine Run.drawM (fun h' => h' = h6) [6] ⟨[0, 0, 0, 1, 8, 23, 39], [127, 127, 127, 126, 119, 109, 91], [0, 0, 0, 1, 9, 31, 63], 64⟩ (.q 0 (.q 1 (.q 2 (.q 3 (.q 4 (.q 5 (.x 6 .nil .no))))))) TF.mixed (by kernel_rfl) rfl ?_
  refine auT 2 rfl ?_
  obtain ⟨b14, s15, hl, s⟩ := s
  refine zqe rfl (sem_loadN ⟨k5, 0, none⟩ [(.bool b14), (.string s15)] rfl TF.agg_76 TF.sz_76 hl ⟨rfl, rfl⟩) ?_
  obtain ⟨A16, e17, s⟩ := s
  refine zqe rfl (sem_nilCheck A16 (congrArg Value.pointer e17) ⟨rfl, rfl⟩) ?_
  refine auT 1 rfl ?_
  obtain ⟨hi0, hi1, s⟩ := s
  refine zqe rfl (sem_indexAddrA (Addr.add A16 12) .i64 (i2) rfl rfl TF.arr_77 hi0 hi1 ⟨rfl, rfl⟩) ?_
  obtain ⟨h18, hst, s⟩ := s
  refine ⟨zo0 rfl (sem_storeN (Addr.add (Addr.add A16 12) (Int.toNat (i2) * 2)) [(.bool b14), (.string s15)] h18 rfl rfl TF.sz_76 hst ?_), trivial⟩
  refine ⟨fun hz => Bool.noConfusion hz, ?_⟩
  refine au 3 rfl ?_
  refine znil s rfl rfl fun A19 s => ?_
  refine au 1 rfl ?_
  obtain ⟨hi0, hi1, s⟩ := s
  refine zg rfl (sem_indexAddrA (Addr.add A19 24) .i64 (i2) rfl rfl TF.arr_84 hi0 hi1 ?_)
  refine zs1 s rfl rfl rfl rfl TF.sz_4 fun h21 s => ?_
  refine au 1 rfl ?_
  exact zf (s.imp fun _ q => ⟨rfl, q⟩)
theorem C_countermandref09_Put.of {B : RO} {b1 : Bool} {s2 : ByteArray} {i3 : Int} {i4 : Int} {h : Heap} {Q : Bool → ByteArray → Heap → Prop} (s : S_countermandref09_Put B b1 s2 i3 i4 h Q) : C_countermandref09_Put B b1 s2 i3 i4 h Q := by
 refine zspec Try.func117 [ResultVar.cell 6 76] rfl rfl rfl rfl rfl ?_
 refine au 2 rfl ?_
 refine zbn s rfl rfl rfl fun k7 h8 s => ?_
 refine zal s rfl TF.zero_76 rfl fun k9 h10 s => ?_
 refine au 1 rfl ?_
 refine Run.seqJ (fun e h12 => Agree [(1, (.int .i64 (i3))), (2, (.int .u8 (i4))), (3, (.pointer (some ⟨k7, 0, none⟩))), (6, (.pointer (some ⟨k9, 0, none⟩)))] e ∧ S_countermandref09_Put_J1 B i3 i4 k7 k9 h12 Q) ?_ fun j11 => ?_
 ·rintro e h12 ⟨hag, s⟩
  refine Run.env hag ?_; clear hag
  refine au 10 rfl ?_
  obtain ⟨J19, m17, h0, s⟩ := s
  refine Run.of_fin (h0.imp fun h' h0 => ?_)
  refine Run.loop (σ := ByteArray × Int × Nat) (fun x e h => J19 x.1 x.2.1 x.2.2 h ∧ Agree [(1, (.int .i64 (i3))), (2, (.int .u8 (i4))), (3, (.pointer (some ⟨k7, 0, none⟩))), (6, (.pointer (some ⟨k9, 0, none⟩))), (7, (.string x.1)), (8, (.int .i64 (x.2.1)))] e) (fun x => x.2.2) ((ByteArray.mk #[]), (0), m17) ⟨h0, ⟨rfl, rfl, rfl, rfl, rfl, rfl, trivial⟩⟩ ?_; clear h0
  rintro ⟨s13, i14, m16⟩ e h15 ⟨hJ, hag⟩ ih18
  have s := s s13 i14 m16 h15 hJ; clear hJ
  refine Run.env hag ?_; clear hag
  refine Run.seqJ (fun e h21 => Agree [(1, (.int .i64 (i3))), (2, (.int .u8 (i4))), (3, (.pointer (some ⟨k7, 0, none⟩))), (6, (.pointer (some ⟨k9, 0, none⟩))), (7, (.string s13)), (8, (.int .i64 (i14)))] e ∧ S_countermandref09_Put_J2 B i3 i4 k7 k9 s13 i14 m16 J19 h21 Q) ?_ fun j20 => ?_
  ·rintro e h21 ⟨hag, s⟩
   refine Run.env hag ?_; clear hag
   refine au 4 rfl ?_
   obtain ⟨b22, s23, hl, s⟩ := s
   refine zn hl rfl rfl TF.agg_76 TF.sz_76 rfl ?_
   refine au 1 rfl ?_
   refine zcall s rfl rfl TF.goes_138 ?_
   rintro _ h24 ⟨i25, rfl, s⟩
   refine zg rfl (sem_max .i64 (i25) (0) rfl rfl ?_)
   refine au 2 rfl ?_
   refine Run.seqJ (fun e h28 => ∃ i27 : Int, Agree [(1, (.int .i64 (i3))), (2, (.int .u8 (i4))), (3, (.pointer (some ⟨k7, 0, none⟩))), (6, (.pointer (some ⟨k9, 0, none⟩))), (7, (.string s13)), (8, (.int .i64 (i14))), (9, (.int .i64 (i27)))] e ∧ S_countermandref09_Put_J3 B i3 i4 k7 k9 s13 i14 m16 J19 i27 h28 Q) ?_ fun j26 => ?_
   ·rintro e h28 ⟨i27, hag, s⟩
    refine Run.env hag ?_; clear hag
    refine au 3 rfl ?_
    refine zg rfl (sem_convI .i64 .u8 (i27) rfl TF.int_3 TF.int_5 ?_)
    refine zg rfl (sem_buildSliceL [(0, (.int .u8 (IntKind.wrap .u8 (i27))))] [(.int .u8 (IntKind.wrap .u8 (i27)))] TF.slc_144 TF.zero_5 rfl (by decide) (by decide) rfl rfl (fun k29 hb1 hb2 h30 hb3 => ?_))
    have s := s k29 hb1 hb2 h30 hb3
    refine zg rfl (sem_convW ((.slice (some ⟨k29, 0, none⟩) 1 1)) rfl (semH_mono (fun v h32 hv => ?_) s))
    obtain ⟨s31, rfl, s⟩ := hv
    obtain ⟨hi0, s⟩ := s
    refine zg rfl (sem_strAdd s13 s31 rfl rfl hi0 ?_)
    refine au 8 rfl ?_
    exact Run.of_fin (s.imp fun h' ⟨m', hm, s⟩ => ih18 ((s13 ++ s31), (IntKind.wrap .i64 ((i14) + (1))), m') _ _ ⟨s, ⟨rfl, rfl, rfl, rfl, rfl, rfl, trivial⟩⟩ hm)
   refine au 4 rfl ?_
   refine zt s rfl rfl rfl binI_eql_t binI_eql_f (fun s => ?_) fun s => ?_
   ·refine au 4 rfl ?_
    refine zg rfl (sem_convI .u8 .i64 (i4) rfl TF.int_5 TF.int_3 ?_)
    refine au 2 rfl ?_
    exact Run.of_fin (s.imp fun h' s => j26 _ _ ⟨(IntKind.wrap .i64 (i4)), ⟨rfl, rfl, rfl, rfl, rfl, rfl, rfl, trivial⟩, s⟩)
   ·refine au 3 rfl ?_
    exact Run.of_fin (s.imp fun h' s => j26 _ _ ⟨(if (0 : Int) > (i25) then (0 : Int) else (i25)), ⟨rfl, rfl, rfl, rfl, rfl, rfl, rfl, trivial⟩, s⟩)
  refine au 4 rfl ?_
  refine zl s rfl rfl TF.agg_9 fun s33 s => ?_
  refine zg rfl (sem_lenStr s33 rfl TF.isStr_9 ?_)
  refine zt s rfl rfl rfl binI_lss_t binI_lss_f (fun s => ?_) fun s => ?_
  ·refine au 8 rfl ?_
   exact Run.of_fin (s.imp fun h' s => j20 _ _ ⟨⟨rfl, rfl, rfl, rfl, rfl, rfl, trivial⟩, s⟩)
  ·refine au 3 rfl ?_
   refine zt s rfl rfl rfl binI_leq_t binI_leq_f (fun s => ?_) fun s => ?_
   ·refine au 4 rfl ?_
    exact Run.of_fin (s.imp fun h' s => j20 _ _ ⟨⟨rfl, rfl, rfl, rfl, rfl, rfl, trivial⟩, s⟩)
   ·refine au 7 rfl ?_
    refine zg rfl (sem_buildSL [(0, (.bool true)), (1, (.string s13))] [(.bool true), (.string s13)] TF.zero_76 TF.places_76 rfl rfl ?_)
    refine zsn s rfl rfl rfl TF.sz_76 rfl fun h34 s => ?_
    refine au 1 rfl ?_
    obtain ⟨b35, s36, hl0, s⟩ := s
    exact zr (⟨⟨k9, 0, none⟩, (.agg #[(.bool b35), (.string s36)]), rfl, loadHN TF.agg_76 TF.sz_76 hl0, s.imp fun _ q => ⟨_, _, rfl, q⟩⟩)
 refine au 3 rfl ?_
 refine zt s rfl rfl rfl binI_lss_t binI_lss_f (fun s => ?_) fun s => ?_
 ·refine au 8 rfl ?_
  obtain ⟨b37, s38, hl, s⟩ := s
  refine zn hl rfl rfl TF.agg_76 TF.sz_76 rfl ?_
  refine zsn s rfl rfl rfl TF.sz_76 rfl fun h39 s => ?_
  refine au 1 rfl ?_
  obtain ⟨b40, s41, hl0, s⟩ := s
  exact zr (⟨⟨k9, 0, none⟩, (.agg #[(.bool b40), (.string s41)]), rfl, loadHN TF.agg_76 TF.sz_76 hl0, s.imp fun _ q => ⟨_, _, rfl, q⟩⟩)
 ·refine au 2 rfl ?_
  refine zt s rfl rfl rfl binI_gtr_t binI_gtr_f (fun s => ?_) fun s => ?_
  ·refine au 5 rfl ?_
   obtain ⟨b42, s43, hl, s⟩ := s
   refine zn hl rfl rfl TF.agg_76 TF.sz_76 rfl ?_
   refine zsn s rfl rfl rfl TF.sz_76 rfl fun h44 s => ?_
   refine au 1 rfl ?_
   obtain ⟨b45, s46, hl0, s⟩ := s
   exact zr (⟨⟨k9, 0, none⟩, (.agg #[(.bool b45), (.string s46)]), rfl, loadHN TF.agg_76 TF.sz_76 hl0, s.imp fun _ q => ⟨_, _, rfl, q⟩⟩)
  ·refine au 4 rfl ?_
   exact Run.of_fin (s.imp fun h' s => j11 _ _ ⟨⟨rfl, rfl, rfl, rfl, trivial⟩, s⟩)
theorem C_countermandref09_Cut.of {B : RO} {b1 : Bool} {s2 : ByteArray} {i3 : Int} {h : Heap} {Q : Bool → ByteArray → Heap → Prop} (s : S_countermandref09_Cut B b1 s2 i3 h Q) : C_countermandref09_Cut B b1 s2 i3 h Q := by
 refine zspec Try.func118 [ResultVar.cell 4 76] rfl rfl rfl rfl rfl ?_
 refine au 2 rfl ?_
 refine zbn s rfl rfl rfl fun k6 h7 s => ?_
 refine zal s rfl TF.zero_76 rfl fun k8 h9 s => ?_
 refine au 1 rfl ?_
 refine Run.seqJ (fun e h11 => Agree [(1, (.int .i64 (i3))), (2, (.pointer (some ⟨k6, 0, none⟩))), (4, (.pointer (some ⟨k8, 0, none⟩)))] e ∧ S_countermandref09_Cut_J1 B i3 k6 k8 h11 Q) ?_ fun j10 => ?_
 ·rintro e h11 ⟨hag, s⟩
  refine Run.env hag ?_; clear hag
  refine au 10 rfl ?_
  obtain ⟨J18, m16, h0, s⟩ := s
  refine Run.of_fin (h0.imp fun h' h0 => ?_)
  refine Run.loop (σ := ByteArray × Int × Nat) (fun x e h => J18 x.1 x.2.1 x.2.2 h ∧ Agree [(1, (.int .i64 (i3))), (2, (.pointer (some ⟨k6, 0, none⟩))), (4, (.pointer (some ⟨k8, 0, none⟩))), (5, (.string x.1)), (6, (.int .i64 (x.2.1)))] e) (fun x => x.2.2) ((ByteArray.mk #[]), (0), m16) ⟨h0, ⟨rfl, rfl, rfl, rfl, rfl, trivial⟩⟩ ?_; clear h0
  rintro ⟨s12, i13, m15⟩ e h14 ⟨hJ, hag⟩ ih17
  have s := s s12 i13 m15 h14 hJ; clear hJ
  refine Run.env hag ?_; clear hag
  refine au 5 rfl ?_
  refine zt s rfl rfl rfl binI_lss_t binI_lss_f (fun s => ?_) fun s => ?_
  ·refine au 7 rfl ?_
   obtain ⟨b19, s20, hl, s⟩ := s
   refine zn hl rfl rfl TF.agg_76 TF.sz_76 rfl ?_
   refine au 1 rfl ?_
   refine zcall s rfl rfl TF.goes_138 ?_
   rintro _ h21 ⟨i22, rfl, s⟩
   refine zg rfl (sem_max .i64 (i22) (0) rfl rfl ?_)
   refine zg rfl (sem_convI .i64 .u8 (if (0 : Int) > (i22) then (0 : Int) else (i22)) rfl TF.int_3 TF.int_5 ?_)
   refine zg rfl (sem_buildSliceL [(0, (.int .u8 (IntKind.wrap .u8 (if (0 : Int) > (i22) then (0 : Int) else (i22)))))] [(.int .u8 (IntKind.wrap .u8 (if (0 : Int) > (i22) then (0 : Int) else (i22))))] TF.slc_144 TF.zero_5 rfl (by decide) (by decide) rfl rfl (fun k23 hb1 hb2 h24 hb3 => ?_))
   have s := s k23 hb1 hb2 h24 hb3
   refine zg rfl (sem_convW ((.slice (some ⟨k23, 0, none⟩) 1 1)) rfl (semH_mono (fun v h26 hv => ?_) s))
   obtain ⟨s25, rfl, s⟩ := hv
   obtain ⟨hi0, s⟩ := s
   refine zg rfl (sem_strAdd s12 s25 rfl rfl hi0 ?_)
   refine au 8 rfl ?_
   exact Run.of_fin (s.imp fun h' ⟨m', hm, s⟩ => ih17 ((s12 ++ s25), (IntKind.wrap .i64 ((i13) + (1))), m') _ _ ⟨s, ⟨rfl, rfl, rfl, rfl, rfl, trivial⟩⟩ hm)
  ·refine au 6 rfl ?_
   refine zg rfl (sem_buildSL [(0, (.bool true)), (1, (.string s12))] [(.bool true), (.string s12)] TF.zero_76 TF.places_76 rfl rfl ?_)
   refine zsn s rfl rfl rfl TF.sz_76 rfl fun h27 s => ?_
   refine au 1 rfl ?_
   obtain ⟨b28, s29, hl0, s⟩ := s
   exact zr (⟨⟨k8, 0, none⟩, (.agg #[(.bool b28), (.string s29)]), rfl, loadHN TF.agg_76 TF.sz_76 hl0, s.imp fun _ q => ⟨_, _, rfl, q⟩⟩)
 refine au 3 rfl ?_
 refine zl s rfl rfl TF.agg_4 fun b30 s => ?_
 cases b30
 ·replace s := s.2 rfl
  refine au 13 rfl ?_
  obtain ⟨b31, s32, hl, s⟩ := s
  refine zn hl rfl rfl TF.agg_76 TF.sz_76 rfl ?_
  refine zsn s rfl rfl rfl TF.sz_76 rfl fun h33 s => ?_
  refine au 1 rfl ?_
  obtain ⟨b34, s35, hl0, s⟩ := s
  exact zr (⟨⟨k8, 0, none⟩, (.agg #[(.bool b34), (.string s35)]), rfl, loadHN TF.agg_76 TF.sz_76 hl0, s.imp fun _ q => ⟨_, _, rfl, q⟩⟩)
 ·replace s := s.1 rfl
  refine au 3 rfl ?_
  refine zt s rfl rfl rfl binI_lss_t binI_lss_f (fun s => ?_) fun s => ?_
  ·refine au 9 rfl ?_
   obtain ⟨b36, s37, hl, s⟩ := s
   refine zn hl rfl rfl TF.agg_76 TF.sz_76 rfl ?_
   refine zsn s rfl rfl rfl TF.sz_76 rfl fun h38 s => ?_
   refine au 1 rfl ?_
   obtain ⟨b39, s40, hl0, s⟩ := s
   exact zr (⟨⟨k8, 0, none⟩, (.agg #[(.bool b39), (.string s40)]), rfl, loadHN TF.agg_76 TF.sz_76 hl0, s.imp fun _ q => ⟨_, _, rfl, q⟩⟩)
  ·refine au 3 rfl ?_
   refine zt s rfl rfl rfl binI_gtr_t binI_gtr_f (fun s => ?_) fun s => ?_
   ·refine au 5 rfl ?_
    obtain ⟨b41, s42, hl, s⟩ := s
    refine zn hl rfl rfl TF.agg_76 TF.sz_76 rfl ?_
    refine zsn s rfl rfl rfl TF.sz_76 rfl fun h43 s => ?_
    refine au 1 rfl ?_
    obtain ⟨b44, s45, hl0, s⟩ := s
    exact zr (⟨⟨k8, 0, none⟩, (.agg #[(.bool b44), (.string s45)]), rfl, loadHN TF.agg_76 TF.sz_76 hl0, s.imp fun _ q => ⟨_, _, rfl, q⟩⟩)
   ·refine au 4 rfl ?_
    exact Run.of_fin (s.imp fun h' s => j10 _ _ ⟨⟨rfl, rfl, rfl, trivial⟩, s⟩)
theorem C_cell_Row_file_File_is.of {B : RO} {p1 : Option Addr} {i2 : Int} {h : Heap} {Q : Bool → Heap → Prop} (s : S_cell_Row_file_File_is B p1 i2 h Q) : C_cell_Row_file_File_is B p1 i2 h Q := by
 refine zspec Try.func120 [ResultVar.tmp 4] rfl rfl rfl rfl rfl ?_
 refine au 7 rfl ?_
 by_cases hb4 : p1 = none
 ·replace s := s.1 hb4
  refine zg rfl (sem_ptrNilT p1 (.inr rfl) false rfl rfl TF.ptr_110 hb4 rfl ?_)
  refine au 15 rfl ?_
  exact zr (s.imp fun _ q => ⟨_, rfl, q⟩)
 ·replace s := s.2 hb4
  refine zg rfl (sem_ptrNilF p1 (.inr rfl) true rfl rfl TF.ptr_110 hb4 rfl ?_)
  refine au 2 rfl ?_
  refine zt s rfl rfl rfl binI_geq_t binI_geq_f (fun s => ?_) fun s => ?_
  ·refine au 4 rfl ?_
   refine znil s rfl rfl fun A5 s => ?_
   refine au 1 rfl ?_
   refine Run.ldSl s fun a7 n8 c9 h10 hl s => ?_
   refine zg rfl (sem_load1 A5 ((.slice a7 n8 c9)) rfl TF.agg_166 hl ?_)
   refine zg rfl (sem_lenSl a7 n8 c9 rfl TF.sl_166 ?_)
   refine au 4 rfl ?_
   exact zr (s.imp fun _ q => ⟨_, rfl, q⟩)
  ·refine au 12 rfl ?_
   exact zr (s.imp fun _ q => ⟨_, rfl, q⟩)
theorem C_tome_Tome_All_1.of {B : RO} {v1 : Value} {A2 : Addr} {h : Heap} {Q : Heap → Prop} (s : S_tome_Tome_All_1 B v1 A2 h Q) : C_tome_Tome_All_1 B v1 A2 h Q := by
 refine zspec Try.func121 [] rfl rfl rfl rfl rfl ?_
 refine au 2 rfl ?_
 obtain ⟨hone, s⟩ := s
 refine zg rfl (sem_box1N (v1) rfl hone (fun k3 hb1 hb2 h4 hb3 => ?_))
 have s := s k3 hb1 hb2 h4 hb3
 refine au 4 rfl ?_
 refine zl s rfl rfl TF.agg_25 fun p5 s => ?_
 by_cases hb6 : p5 = none
 ·replace s := s.1 hb6
  refine zg rfl (sem_ptrNilT p5 (.inl rfl) true rfl rfl TF.ptr_25 hb6 rfl ?_)
  refine au 2 rfl ?_
  exact zr (s.imp fun _ q => ⟨rfl, q⟩)
 ·replace s := s.2 hb6
  refine zg rfl (sem_ptrNilF p5 (.inl rfl) false rfl rfl TF.ptr_25 hb6 rfl ?_)
  refine au 5 rfl ?_
  refine zl s rfl rfl TF.agg_25 fun p7 s => ?_
  refine znil s rfl rfl fun A8 s => ?_
  refine au 1 rfl ?_
  refine zl s rfl rfl TF.agg_110 fun p10 s => ?_
  refine zcall s rfl rfl TF.goes_122 ?_
  rintro v12 h11 ⟨_, rfl, s⟩
  refine au 2 rfl ?_
  obtain ⟨xs20, G16, J19, hit, hins, hG, h0, s, hR⟩ := s
  refine Run.of_fin (h0.imp fun h' h0 => ?_)
  refine Run.range (v12) (xs20.map (fun x : Int × Bool × ByteArray => [(.int .i64 (x.1)), (.agg #[(.bool x.2.1), (.string x.2.2)])])) G16 J19 rfl hit hins hG h0 rfl (fun a ha => by obtain ⟨x, _, rfl⟩ := List.mem_map.1 ha; rfl) ?_ ?_
  ·rintro q18 args h17 ha hJ
   obtain ⟨⟨i13, b14, s15⟩, hx, rfl⟩ := Option.map_eq_some_iff.1 ((List.getElem?_map ..).symm.trans ha)
   have s := s q18 h17 i13 b14 s15 hx hJ; clear hJ hx ha
   refine zput rfl ?_
   refine au 5 rfl ?_
   refine zal s rfl TF.zero_41 rfl fun k21 h22 s => ?_
   refine zsn s rfl rfl rfl TF.sz_41 rfl fun h23 s => ?_
   refine au 1 rfl ?_
   refine Run.begin ⟨rfl, ?_⟩
   refine au 4 rfl ?_
   refine zl s rfl rfl TF.agg_4 fun b24 s => ?_
   cases b24
   ·replace s := s.2 rfl
    refine au 11 rfl ?_
    refine Run.of_fin (s.imp fun h' s => ?_)
    exact Run.fall (.inl ⟨rfl, s⟩)
   ·replace s := s.1 rfl
    refine au 1 rfl ?_
    refine zl s rfl rfl TF.agg_157 fun v25 s => ?_
    refine au 1 rfl ?_
    obtain ⟨b26, s27, hl, s⟩ := s
    refine zn hl rfl rfl TF.agg_41 TF.sz_41 rfl ?_
    refine zg rfl (sem_callV (v25) [(.int .i64 (i13)), (.agg #[(.bool b26), (.string s27)])] rfl rfl s (fun nx h' ha => ha.mono fun v h28 hv => ?_))
    obtain ⟨b29, rfl, s⟩ := hv
    cases b29
    ·replace s := s.2 rfl
     refine au 4 rfl ?_
     refine Run.ret (.inr ⟨_, rfl, ?_⟩)
     exact zr (s.imp fun _ q => ⟨rfl, q⟩)
    ·replace s := s.1 rfl
     refine au 6 rfl ?_
     refine Run.of_fin (s.imp fun h' s => ?_)
     exact Run.fall (.inl ⟨rfl, s⟩)
  ·intro h17 hJ
   have s := hR h17 (by simpa using hJ); clear hJ hR
   refine au 1 rfl ?_
   exact zf (s.imp fun _ q => ⟨rfl, q⟩)
theorem C_cell_Row_file_File_All.of {B : RO} {p1 : Option Addr} {h : Heap} {Q : Value → Heap → Prop} (s : S_cell_Row_file_File_All B p1 h Q) : C_cell_Row_file_File_All B p1 h Q := by
 refine zspec Try.func122 [ResultVar.tmp 2] rfl rfl rfl rfl rfl ?_
 refine au 2 rfl ?_
 refine zb1 s rfl rfl rfl rfl fun k3 h4 s => ?_
 refine au 7 rfl ?_
 exact zr (s.imp fun _ q => ⟨_, rfl, q⟩)
theorem C_slices_Insert_s_draft_entry_file_File_draft_entry_file_File.of {B : RO} {a1 : Option Addr} {n2 : Nat} {c3 : Nat} {i4 : Int} {a5 : Option Addr} {n6 : Nat} {c7 : Nat} {h : Heap} {Q : Option Addr → Nat → Nat → Heap → Prop} (s : S_slices_Insert_s_draft_entry_file_File_draft_entry_file_File B a1 n2 c3 i4 a5 n6 c7 h Q) : C_slices_Insert_s_draft_entry_file_File_draft_entry_file_File B a1 n2 c3 i4 a5 n6 c7 h Q := by
 refine zspec Try.func125 [ResultVar.tmp 6] rfl rfl rfl rfl rfl ?_
 refine au 8 rfl ?_
 obtain ⟨hi0, hi1, hi2, s⟩ := s
 refine zg rfl (sem_sliceSlI a1 n2 c3 (i4) ((n2 : Nat)) rfl TF.slc_158 ⟨_, rfl⟩ rfl hi0 hi1 hi2 ?_)
 refine au 4 rfl ?_
 refine zg rfl (sem_lenSl a5 n6 c7 rfl TF.sl_158 ?_)
 refine au 6 rfl ?_
 refine zt s rfl rfl rfl binI_eql_t binI_eql_f (fun s => ?_) fun s => ?_
 ·refine au 7 rfl ?_
  exact zr (s.imp fun _ q => ⟨_, _, _, rfl, q⟩)
 ·refine au 6 rfl ?_
  refine zg rfl (sem_lenSl a1 n2 c3 rfl TF.sl_158 ?_)
  refine au 7 rfl ?_
  refine zt s rfl rfl rfl binI_eql_t binI_eql_f (fun s => ?_) fun s => ?_
  ·refine au 6 rfl ?_
   refine zg rfl (sem_appendL [(.slice a1 n2 c3), (.slice a5 n6 c7)] rfl (semH_mono (fun v h11 hv => ?_) s))
   obtain ⟨a12, n13, c14, rfl, s⟩ := hv
   refine au 2 rfl ?_
   exact zr (s.imp fun _ q => ⟨_, _, _, rfl, q⟩)
  ·refine au 10 rfl ?_
   refine zg rfl (sem_capSl a1 (n2) (c3) rfl TF.sl_158 ?_)
   refine zt s rfl rfl rfl binI_gtr_t binI_gtr_f (fun s => ?_) fun s => ?_
   ·refine au 6 rfl ?_
    obtain ⟨hi0, hi1, hi2, s⟩ := s
    refine zg rfl (sem_sliceSlI a1 n2 c3 (0) (i4) rfl TF.slc_158 rfl ⟨_, rfl⟩ hi0 hi1 hi2 ?_)
    refine au 5 rfl ?_
    refine zg rfl (sem_appendL [(.slice (if c3 = Int.toNat (0) then a1 else Option.map (·.add (Int.toNat (0) * 3)) a1) (Int.toNat (i4) - Int.toNat (0)) (c3 - Int.toNat (0))), (.int .i64 (IntKind.wrap .i64 ((IntKind.wrap .i64 (((n2 : Nat)) + ((n6 : Nat)))) - (i4))))] rfl (semH_mono (fun v h15 hv => ?_) s))
    obtain ⟨a16, n17, c18, rfl, s⟩ := hv
    refine au 6 rfl ?_
    obtain ⟨hi0, hi1, hi2, s⟩ := s
    refine zg rfl (sem_sliceSlI a16 n17 c18 (i4) ((n17 : Nat)) rfl TF.slc_158 ⟨_, rfl⟩ rfl hi0 hi1 hi2 ?_)
    refine au 1 rfl ?_
    refine zg rfl (sem_copyL [(.slice (if c18 = Int.toNat (i4) then a16 else Option.map (·.add (Int.toNat (i4) * 3)) a16) (Int.toNat ((n17 : Nat)) - Int.toNat (i4)) (c18 - Int.toNat (i4))), (.slice a5 n6 c7)] rfl (semH_mono (fun v h19 hv => ?_) s))
    obtain ⟨i20, rfl, s⟩ := hv
    refine au 2 rfl ?_
    refine Run.drawM (fun h' => h' = h19) [8] ⟨[0, 0, 0, 6, 9, 0, 0, 96, 144], [511, 511, 511, 505, 502, 511, 511, 415, 367], [0, 0, 0, 6, 15, 0, 0, 96, 255], 256⟩ (.q 0 (.q 1 (.q 2 (.q 3 (.q 4 (.q 5 (.q 6 (.q 7 (.x 8 .nil .no))))))))) TF.mixed (by kernel_rfl) rfl ?_
    refine auT 4 rfl ?_
    obtain ⟨hi0, hi1, hi2, s⟩ := s
    refine zqe rfl (sem_sliceSlI a16 n17 c18 (IntKind.wrap .i64 ((i4) + ((n6 : Nat)))) ((n17 : Nat)) rfl TF.slc_158 ⟨_, rfl⟩ rfl hi0 hi1 hi2 ⟨rfl, rfl⟩) ?_
    refine auT 2 rfl ?_
    obtain ⟨hi0, hi1, hi2, s⟩ := s
    refine zqe rfl (sem_sliceSlI a1 n2 c3 (i4) ((n2 : Nat)) rfl TF.slc_158 ⟨_, rfl⟩ rfl hi0 hi1 hi2 ⟨rfl, rfl⟩) ?_
    refine ⟨zo rfl (sem_copyL [(.slice (if c18 = Int.toNat (IntKind.wrap .i64 ((i4) + ((n6 : Nat)))) then a16 else Option.map (·.add (Int.toNat (IntKind.wrap .i64 ((i4) + ((n6 : Nat)))) * 3)) a16) (Int.toNat ((n17 : Nat)) - Int.toNat (IntKind.wrap .i64 ((i4) + ((n6 : Nat))))) (c18 - Int.toNat (IntKind.wrap .i64 ((i4) + ((n6 : Nat)))))), (.slice (if c3 = Int.toNat (i4) then a1 else Option.map (·.add (Int.toNat (i4) * 3)) a1) (Int.toNat ((n2 : Nat)) - Int.toNat (i4)) (c3 - Int.toNat (i4)))] rfl (semH_mono (fun v h21 hv => ?_) s)), trivial⟩
    obtain ⟨i22, rfl, s⟩ := hv
    refine ⟨fun hz => Bool.noConfusion hz, ?_⟩
    refine au 5 rfl ?_
    exact zr (s.imp fun _ q => ⟨_, _, _, rfl, q⟩)
   ·refine au 9 rfl ?_
    obtain ⟨hi0, hi1, hi2, s⟩ := s
    refine zg rfl (sem_sliceSlI a1 n2 c3 (0) (IntKind.wrap .i64 (((n2 : Nat)) + ((n6 : Nat)))) rfl TF.slc_158 rfl ⟨_, rfl⟩ hi0 hi1 hi2 ?_)
    refine au 10 rfl ?_
    obtain ⟨hi0, hi1, hi2, s⟩ := s
    refine zg rfl (sem_sliceSlI (if c3 = Int.toNat (0) then a1 else Option.map (·.add (Int.toNat (0) * 3)) a1) (Int.toNat (IntKind.wrap .i64 (((n2 : Nat)) + ((n6 : Nat)))) - Int.toNat (0)) (c3 - Int.toNat (0)) (IntKind.wrap .i64 ((i4) + ((n6 : Nat)))) (((Int.toNat (IntKind.wrap .i64 (((n2 : Nat)) + ((n6 : Nat)))) - Int.toNat (0)) : Nat)) rfl TF.slc_158 ⟨_, rfl⟩ rfl hi0 hi1 hi2 ?_)
    refine zg rfl (sem_callXL [(.slice a5 n6 c7), (.slice (if (c3 - Int.toNat (0)) = Int.toNat (IntKind.wrap .i64 ((i4) + ((n6 : Nat)))) then (if c3 = Int.toNat (0) then a1 else Option.map (·.add (Int.toNat (0) * 3)) a1) else Option.map (·.add (Int.toNat (IntKind.wrap .i64 ((i4) + ((n6 : Nat)))) * 3)) (if c3 = Int.toNat (0) then a1 else Option.map (·.add (Int.toNat (0) * 3)) a1)) (Int.toNat (((Int.toNat (IntKind.wrap .i64 (((n2 : Nat)) + ((n6 : Nat)))) - Int.toNat (0)) : Nat)) - Int.toNat (IntKind.wrap .i64 ((i4) + ((n6 : Nat))))) ((c3 - Int.toNat (0)) - Int.toNat (IntKind.wrap .i64 ((i4) + ((n6 : Nat))))))] (TF.goesx_147) rfl rfl (semH_mono (fun v h23 hv => ?_) s))
    obtain ⟨b24, rfl, s⟩ := hv
    cases b24
    ·replace s := s.2 rfl
     refine au 4 rfl ?_
     refine Run.drawM (fun h' => h' = h23) [8] ⟨[0, 0, 0, 6, 9, 0, 0, 96, 144], [511, 511, 511, 505, 502, 511, 511, 415, 367], [0, 0, 0, 6, 15, 0, 0, 96, 255], 256⟩ (.q 0 (.q 1 (.q 2 (.q 3 (.q 4 (.q 5 (.q 6 (.q 7 (.x 8 .nil .no))))))))) TF.mixed (by kernel_rfl) rfl ?_
     refine auT 4 rfl ?_
     obtain ⟨hi0, hi1, hi2, s⟩ := s
     refine zqe rfl (sem_sliceSlI (if c3 = Int.toNat (0) then a1 else Option.map (·.add (Int.toNat (0) * 3)) a1) (Int.toNat (IntKind.wrap .i64 (((n2 : Nat)) + ((n6 : Nat)))) - Int.toNat (0)) (c3 - Int.toNat (0)) (IntKind.wrap .i64 ((i4) + ((n6 : Nat)))) (((Int.toNat (IntKind.wrap .i64 (((n2 : Nat)) + ((n6 : Nat)))) - Int.toNat (0)) : Nat)) rfl TF.slc_158 ⟨_, rfl⟩ rfl hi0 hi1 hi2 ⟨rfl, rfl⟩) ?_
     refine auT 2 rfl ?_
     obtain ⟨hi0, hi1, hi2, s⟩ := s
     refine zqe rfl (sem_sliceSlI (if c3 = Int.toNat (0) then a1 else Option.map (·.add (Int.toNat (0) * 3)) a1) (Int.toNat (IntKind.wrap .i64 (((n2 : Nat)) + ((n6 : Nat)))) - Int.toNat (0)) (c3 - Int.toNat (0)) (i4) (((Int.toNat (IntKind.wrap .i64 (((n2 : Nat)) + ((n6 : Nat)))) - Int.toNat (0)) : Nat)) rfl TF.slc_158 ⟨_, rfl⟩ rfl hi0 hi1 hi2 ⟨rfl, rfl⟩) ?_
     refine ⟨zo rfl (sem_copyL [(.slice (if (c3 - Int.toNat (0)) = Int.toNat (IntKind.wrap .i64 ((i4) + ((n6 : Nat)))) then (if c3 = Int.toNat (0) then a1 else Option.map (·.add (Int.toNat (0) * 3)) a1) else Option.map (·.add (Int.toNat (IntKind.wrap .i64 ((i4) + ((n6 : Nat)))) * 3)) (if c3 = Int.toNat (0) then a1 else Option.map (·.add (Int.toNat (0) * 3)) a1)) (Int.toNat (((Int.toNat (IntKind.wrap .i64 (((n2 : Nat)) + ((n6 : Nat)))) - Int.toNat (0)) : Nat)) - Int.toNat (IntKind.wrap .i64 ((i4) + ((n6 : Nat))))) ((c3 - Int.toNat (0)) - Int.toNat (IntKind.wrap .i64 ((i4) + ((n6 : Nat)))))), (.slice (if (c3 - Int.toNat (0)) = Int.toNat (i4) then (if c3 = Int.toNat (0) then a1 else Option.map (·.add (Int.toNat (0) * 3)) a1) else Option.map (·.add (Int.toNat (i4) * 3)) (if c3 = Int.toNat (0) then a1 else Option.map (·.add (Int.toNat (0) * 3)) a1)) (Int.toNat (((Int.toNat (IntKind.wrap .i64 (((n2 : Nat)) + ((n6 : Nat)))) - Int.toNat (0)) : Nat)) - Int.toNat (i4)) ((c3 - Int.toNat (0)) - Int.toNat (i4)))] rfl (semH_mono (fun v h25 hv => ?_) s)), trivial⟩
     obtain ⟨i26, rfl, s⟩ := hv
     refine ⟨fun hz => Bool.noConfusion hz, ?_⟩
     refine au 4 rfl ?_
     obtain ⟨hi0, hi1, hi2, s⟩ := s
     refine zg rfl (sem_sliceSlI (if c3 = Int.toNat (0) then a1 else Option.map (·.add (Int.toNat (0) * 3)) a1) (Int.toNat (IntKind.wrap .i64 (((n2 : Nat)) + ((n6 : Nat)))) - Int.toNat (0)) (c3 - Int.toNat (0)) (i4) (((Int.toNat (IntKind.wrap .i64 (((n2 : Nat)) + ((n6 : Nat)))) - Int.toNat (0)) : Nat)) rfl TF.slc_158 ⟨_, rfl⟩ rfl hi0 hi1 hi2 ?_)
     refine au 1 rfl ?_
     refine zg rfl (sem_copyL [(.slice (if (c3 - Int.toNat (0)) = Int.toNat (i4) then (if c3 = Int.toNat (0) then a1 else Option.map (·.add (Int.toNat (0) * 3)) a1) else Option.map (·.add (Int.toNat (i4) * 3)) (if c3 = Int.toNat (0) then a1 else Option.map (·.add (Int.toNat (0) * 3)) a1)) (Int.toNat (((Int.toNat (IntKind.wrap .i64 (((n2 : Nat)) + ((n6 : Nat)))) - Int.toNat (0)) : Nat)) - Int.toNat (i4)) ((c3 - Int.toNat (0)) - Int.toNat (i4))), (.slice a5 n6 c7)] rfl (semH_mono (fun v h27 hv => ?_) s))
     obtain ⟨i28, rfl, s⟩ := hv
     refine au 6 rfl ?_
     exact zr (s.imp fun _ q => ⟨_, _, _, rfl, q⟩)
    ·replace s := s.1 rfl
     refine au 8 rfl ?_
     obtain ⟨hi0, hi1, hi2, s⟩ := s
     refine zg rfl (sem_sliceSlI (if c3 = Int.toNat (0) then a1 else Option.map (·.add (Int.toNat (0) * 3)) a1) (Int.toNat (IntKind.wrap .i64 (((n2 : Nat)) + ((n6 : Nat)))) - Int.toNat (0)) (c3 - Int.toNat (0)) ((n2 : Nat)) (((Int.toNat (IntKind.wrap .i64 (((n2 : Nat)) + ((n6 : Nat)))) - Int.toNat (0)) : Nat)) rfl TF.slc_158 ⟨_, rfl⟩ rfl hi0 hi1 hi2 ?_)
     refine au 1 rfl ?_
     refine zg rfl (sem_copyL [(.slice (if (c3 - Int.toNat (0)) = Int.toNat ((n2 : Nat)) then (if c3 = Int.toNat (0) then a1 else Option.map (·.add (Int.toNat (0) * 3)) a1) else Option.map (·.add (Int.toNat ((n2 : Nat)) * 3)) (if c3 = Int.toNat (0) then a1 else Option.map (·.add (Int.toNat (0) * 3)) a1)) (Int.toNat (((Int.toNat (IntKind.wrap .i64 (((n2 : Nat)) + ((n6 : Nat)))) - Int.toNat (0)) : Nat)) - Int.toNat ((n2 : Nat))) ((c3 - Int.toNat (0)) - Int.toNat ((n2 : Nat)))), (.slice a5 n6 c7)] rfl (semH_mono (fun v h29 hv => ?_) s))
     obtain ⟨i30, rfl, s⟩ := hv
     refine au 5 rfl ?_
     obtain ⟨hi0, hi1, hi2, s⟩ := s
     refine zg rfl (sem_sliceSlI (if c3 = Int.toNat (0) then a1 else Option.map (·.add (Int.toNat (0) * 3)) a1) (Int.toNat (IntKind.wrap .i64 (((n2 : Nat)) + ((n6 : Nat)))) - Int.toNat (0)) (c3 - Int.toNat (0)) (i4) (((Int.toNat (IntKind.wrap .i64 (((n2 : Nat)) + ((n6 : Nat)))) - Int.toNat (0)) : Nat)) rfl TF.slc_158 ⟨_, rfl⟩ rfl hi0 hi1 hi2 ?_)
     refine au 1 rfl ?_
     refine zcall s rfl rfl TF.goes_148 ?_
     rintro _ h31 ⟨rfl, s⟩
     refine au 6 rfl ?_
     exact zr (s.imp fun _ q => ⟨_, _, _, rfl, q⟩)
theorem C_slices_BinarySearchFunc_s_draft_entry_file_File_draft_entry_file_File_int.of {B : RO} {a1 : Option Addr} {n2 : Nat} {c3 : Nat} {i4 : Int} {v5 : Value} {h : Heap} {Q : Int → Bool → Heap → Prop} (s : S_slices_BinarySearchFunc_s_draft_entry_file_File_draft_entry_file_File_int B a1 n2 c3 i4 v5 h Q) : C_slices_BinarySearchFunc_s_draft_entry_file_File_draft_entry_file_File_int B a1 n2 c3 i4 v5 h Q := by
 refine zspec Try.func126 [ResultVar.tmp 6, ResultVar.tmp 7] rfl rfl rfl rfl rfl ?_
 refine au 8 rfl ?_
 refine zg rfl (sem_lenSl a1 n2 c3 rfl TF.sl_158 ?_)
 refine au 8 rfl ?_
 refine Run.seqJ (fun e h10 => ∃ i9 : Int, Agree [(0, (.slice a1 n2 c3)), (1, (.int .i64 (i4))), (2, v5), (8, (.int .i64 ((n2 : Nat)))), (9, (.int .i64 (i9)))] e ∧ S_slices_BinarySearchFunc_s_draft_entry_file_File_draft_entry_file_File_int_J1 B a1 n2 c3 i4 v5 i9 h10 Q) ?_ fun j8 => ?_
 ·rintro e h10 ⟨i9, hag, s⟩
  refine Run.env hag ?_; clear hag
  refine au 5 rfl ?_
  refine zt s rfl rfl rfl binI_lss_t binI_lss_f (fun s => ?_) fun s => ?_
  ·refine au 4 rfl ?_
   obtain ⟨A11, e12, hi0, hi1, s⟩ := s
   refine zg rfl (sem_indexAddrS A11 n2 c3 .i64 (i9) (congrArg (fun a => Value.slice a n2 c3) e12) rfl TF.slc_158 hi0 hi1 ?_)
   obtain ⟨i13, b14, s15, hl, s⟩ := s
   refine zn hl rfl rfl TF.agg_162 TF.sz_162 rfl ?_
   refine au 1 rfl ?_
   refine zg rfl (sem_callV (v5) [(.agg #[(.int .i64 (i13)), (.bool b14), (.string s15)]), (.int .i64 (i4))] rfl rfl s (fun nx h' ha => ha.mono fun v h16 hv => ?_))
   obtain ⟨i17, rfl, s⟩ := hv
   refine au 5 rfl ?_
   exact zr (s.imp fun _ q => ⟨_, _, rfl, q⟩)
  ·refine au 13 rfl ?_
   exact zr (s.imp fun _ q => ⟨_, _, rfl, q⟩)
 refine au 1 rfl ?_
 obtain ⟨J24, m22, h0, s⟩ := s
 refine Run.of_fin (h0.imp fun h' h0 => ?_)
 refine Run.loop (σ := Int × Int × Nat) (fun x e h => J24 x.1 x.2.1 x.2.2 h ∧ Agree [(0, (.slice a1 n2 c3)), (1, (.int .i64 (i4))), (2, v5), (8, (.int .i64 ((n2 : Nat)))), (9, (.int .i64 (x.1))), (10, (.int .i64 (x.2.1)))] e) (fun x => x.2.2) ((0), ((n2 : Nat)), m22) ⟨h0, ⟨rfl, rfl, rfl, rfl, rfl, rfl, trivial⟩⟩ ?_; clear h0
 rintro ⟨i18, i19, m21⟩ e h20 ⟨hJ, hag⟩ ih23
 have s := s i18 i19 m21 h20 hJ; clear hJ
 refine Run.env hag ?_; clear hag
 refine au 5 rfl ?_
 refine zt s rfl rfl rfl binI_lss_t binI_lss_f (fun s => ?_) fun s => ?_
 ·refine au 9 rfl ?_
  refine zg rfl (sem_convI .i64 .u64 (IntKind.wrap .i64 ((i18) + (i19))) rfl TF.int_3 TF.int_57 ?_)
  obtain ⟨hi0, s⟩ := s
  refine zg rfl (sem_shr .u64 .u64 (IntKind.wrap .u64 (IntKind.wrap .i64 ((i18) + (i19)))) (1) rfl rfl hi0 ?_)
  refine zg rfl (sem_convI .u64 .i64 (Int.fdiv (IntKind.wrap .u64 (IntKind.wrap .i64 ((i18) + (i19)))) (2 ^ (min (Int.toNat (1)) (IntKind.bits .u64)))) rfl TF.int_57 TF.int_3 ?_)
  refine au 7 rfl ?_
  obtain ⟨A25, e26, hi0, hi1, s⟩ := s
  refine zg rfl (sem_indexAddrS A25 n2 c3 .i64 (IntKind.wrap .i64 (Int.fdiv (IntKind.wrap .u64 (IntKind.wrap .i64 ((i18) + (i19)))) (2 ^ (min (Int.toNat (1)) (IntKind.bits .u64))))) (congrArg (fun a => Value.slice a n2 c3) e26) rfl TF.slc_158 hi0 hi1 ?_)
  obtain ⟨i27, b28, s29, hl, s⟩ := s
  refine zn hl rfl rfl TF.agg_162 TF.sz_162 rfl ?_
  refine au 1 rfl ?_
  refine zg rfl (sem_callV (v5) [(.agg #[(.int .i64 (i27)), (.bool b28), (.string s29)]), (.int .i64 (i4))] rfl rfl s (fun nx h' ha => ha.mono fun v h30 hv => ?_))
  obtain ⟨i31, rfl, s⟩ := hv
  refine zt s rfl rfl rfl binI_lss_t binI_lss_f (fun s => ?_) fun s => ?_
  ·refine au 8 rfl ?_
   exact Run.of_fin (s.imp fun h' ⟨m', hm, s⟩ => ih23 ((IntKind.wrap .i64 ((IntKind.wrap .i64 (Int.fdiv (IntKind.wrap .u64 (IntKind.wrap .i64 ((i18) + (i19)))) (2 ^ (min (Int.toNat (1)) (IntKind.bits .u64))))) + (1))), (i19), m') _ _ ⟨s, ⟨rfl, rfl, rfl, rfl, rfl, rfl, trivial⟩⟩ hm)
  ·refine au 7 rfl ?_
   exact Run.of_fin (s.imp fun h' ⟨m', hm, s⟩ => ih23 ((i18), (IntKind.wrap .i64 (Int.fdiv (IntKind.wrap .u64 (IntKind.wrap .i64 ((i18) + (i19)))) (2 ^ (min (Int.toNat (1)) (IntKind.bits .u64))))), m') _ _ ⟨s, ⟨rfl, rfl, rfl, rfl, rfl, rfl, trivial⟩⟩ hm)
 ·refine au 3 rfl ?_
  exact Run.of_fin (s.imp fun h' s => j8 _ _ ⟨(i18), ⟨rfl, rfl, rfl, rfl, rfl, trivial⟩, s⟩)
theorem C_draft_by_file_File.of {B : RO} {i1 : Int} {b2 : Bool} {s3 : ByteArray} {i4 : Int} {h : Heap} {Q : Int → Heap → Prop} (s : S_draft_by_file_File B i1 b2 s3 i4 h Q) : C_draft_by_file_File B i1 b2 s3 i4 h Q := by
 refine zspec Try.func127 [ResultVar.tmp 4] rfl rfl rfl rfl rfl ?_
 refine au 2 rfl ?_
 refine zbn s rfl rfl rfl fun k6 h7 s => ?_
 refine au 7 rfl ?_
 refine zl s rfl rfl TF.agg_3 fun i8 s => ?_
 refine au 1 rfl ?_
 refine zt s rfl rfl rfl binI_lss_t binI_lss_f (fun s => ?_) fun s => ?_
 ·refine au 7 rfl ?_
  exact zr (s.imp fun _ q => ⟨_, rfl, q⟩)
 ·refine au 6 rfl ?_
  refine zl s rfl rfl TF.agg_3 fun i9 s => ?_
  refine au 1 rfl ?_
  refine zt s rfl rfl rfl binI_gtr_t binI_gtr_f (fun s => ?_) fun s => ?_
  ·refine au 7 rfl ?_
   exact zr (s.imp fun _ q => ⟨_, rfl, q⟩)
  ·refine au 9 rfl ?_
   exact zr (s.imp fun _ q => ⟨_, rfl, q⟩)
theorem C_countermandref09_At.of {B : RO} {b1 : Bool} {s2 : ByteArray} {i3 : Int} {h : Heap} {Q : Int → Heap → Prop} (s : S_countermandref09_At B b1 s2 i3 h Q) : C_countermandref09_At B b1 s2 i3 h Q := by
 refine zspec Try.func138 [ResultVar.tmp 4] rfl rfl rfl rfl rfl ?_
 refine au 2 rfl ?_
 refine zbn s rfl rfl rfl fun k5 h6 s => ?_
 refine au 8 rfl ?_
 obtain ⟨J12, m10, h0, s⟩ := s
 refine Run.of_fin (h0.imp fun h' h0 => ?_)
 refine Run.loop (σ := Int × Nat) (fun x e h => J12 x.1 x.2 h ∧ Agree [(1, (.int .i64 (i3))), (2, (.pointer (some ⟨k5, 0, none⟩))), (5, (.int .i64 (x.1)))] e) (fun x => x.2) ((0), m10) ⟨h0, ⟨rfl, rfl, rfl, trivial⟩⟩ ?_; clear h0
 rintro ⟨i7, m9⟩ e h8 ⟨hJ, hag⟩ ih11
 have s := s i7 m9 h8 hJ; clear hJ
 refine Run.env hag ?_; clear hag
 refine au 5 rfl ?_
 refine zl s rfl rfl TF.agg_9 fun s13 s => ?_
 refine zg rfl (sem_lenStr s13 rfl TF.isStr_9 ?_)
 refine zt s rfl rfl rfl binI_lss_t binI_lss_f (fun s => ?_) fun s => ?_
 ·refine au 9 rfl ?_
  refine zt s rfl rfl rfl binI_eql_t binI_eql_f (fun s => ?_) fun s => ?_
  ·refine au 5 rfl ?_
   refine zl s rfl rfl TF.agg_9 fun s14 s => ?_
   refine au 1 rfl ?_
   obtain ⟨hi0, hi1, s⟩ := s
   refine zg rfl (sem_indexStr' s14 .i64 (i7) rfl rfl TF.isStr_9 hi0 hi1 ?_)
   refine zg rfl (sem_convI .u8 .i64 (byteAt s14 (Int.toNat (i7))) rfl TF.int_5 TF.int_3 ?_)
   refine au 2 rfl ?_
   exact zr (s.imp fun _ q => ⟨_, rfl, q⟩)
  ·refine au 9 rfl ?_
   exact Run.of_fin (s.imp fun h' ⟨m', hm, s⟩ => ih11 ((IntKind.wrap .i64 ((i7) + (1))), m') _ _ ⟨s, ⟨rfl, rfl, rfl, trivial⟩⟩ hm)
 ·refine au 7 rfl ?_
  exact zr (s.imp fun _ q => ⟨_, rfl, q⟩)
theorem C_cell_Row_file_File_All_1.of {B : RO} {v1 : Value} {A2 : Addr} {h : Heap} {Q : Heap → Prop} (s : S_cell_Row_file_File_All_1 B v1 A2 h Q) : C_cell_Row_file_File_All_1 B v1 A2 h Q := by
 refine zspec Try.func139 [] rfl rfl rfl rfl rfl ?_
 refine au 3 rfl ?_
 refine zl s rfl rfl TF.agg_110 fun p3 s => ?_
 by_cases hb4 : p3 = none
 ·replace s := s.1 hb4
  refine zg rfl (sem_ptrNilT p3 (.inl rfl) true rfl rfl TF.ptr_110 hb4 rfl ?_)
  refine au 2 rfl ?_
  exact zr (s.imp fun _ q => ⟨rfl, q⟩)
 ·replace s := s.2 hb4
  refine zg rfl (sem_ptrNilF p3 (.inl rfl) false rfl rfl TF.ptr_110 hb4 rfl ?_)
  refine au 5 rfl ?_
  refine zl s rfl rfl TF.agg_110 fun p5 s => ?_
  refine znil s rfl rfl fun A6 s => ?_
  refine au 1 rfl ?_
  refine Run.ldSl s fun a8 n9 c10 h11 hl s => ?_
  refine zg rfl (sem_load1 A6 ((.slice a8 n9 c10)) rfl TF.agg_166 hl ?_)
  refine zg rfl (sem_lenSl a8 n9 c10 rfl TF.sl_166 ?_)
  refine au 3 rfl ?_
  obtain ⟨J17, m15, h0, s⟩ := s
  refine Run.of_fin (h0.imp fun h' h0 => ?_)
  refine Run.loop (σ := Int × Nat) (fun x e h => J17 x.1 x.2 h ∧ Agree [(0, v1), (10, (.slice a8 n9 c10)), (11, (.int .i64 ((n9 : Nat)))), (12, (.int .i64 (x.1)))] e) (fun x => x.2) ((0), m15) ⟨h0, ⟨rfl, rfl, rfl, rfl, trivial⟩⟩ ?_; clear h0
  rintro ⟨i12, m14⟩ e h13 ⟨hJ, hag⟩ ih16
  have s := s i12 m14 h13 hJ; clear hJ
  refine Run.env hag ?_; clear hag
  refine au 2 rfl ?_
  refine zt s rfl rfl rfl binI_lss_t binI_lss_f (fun s => ?_) fun s => ?_
  ·refine au 9 rfl ?_
   obtain ⟨A18, e19, hi0, hi1, s⟩ := s
   refine zg rfl (sem_indexAddrS A18 n9 c10 .i64 (i12) (congrArg (fun a => Value.slice a n9 c10) e19) rfl TF.slc_166 hi0 hi1 ?_)
   obtain ⟨b20, s21, i22, hl, s⟩ := s
   refine zn hl rfl rfl TF.agg_170 TF.sz_170 rfl ?_
   refine zal s rfl TF.zero_170 rfl fun k23 h24 s => ?_
   refine au 1 rfl ?_
   refine zsn s rfl rfl rfl TF.sz_170 rfl fun h25 s => ?_
   refine au 6 rfl ?_
   obtain ⟨b26, s27, hl, s⟩ := s
   refine zn hl rfl rfl TF.agg_41 TF.sz_41 rfl ?_
   refine zg rfl (sem_callV (v1) [(.int .i64 (i12)), (.agg #[(.bool b26), (.string s27)])] rfl rfl s (fun nx h' ha => ha.mono fun v h28 hv => ?_))
   obtain ⟨b29, rfl, s⟩ := hv
   cases b29
   ·replace s := s.2 rfl
    refine au 3 rfl ?_
    exact zr (s.imp fun _ q => ⟨rfl, q⟩)
   ·replace s := s.1 rfl
    refine au 9 rfl ?_
    exact Run.of_fin (s.imp fun h' ⟨m', hm, s⟩ => ih16 ((IntKind.wrap .i64 ((i12) + (1))), m') _ _ ⟨s, ⟨rfl, rfl, rfl, rfl, trivial⟩⟩ hm)
  ·refine au 4 rfl ?_
   exact zf (s.imp fun _ q => ⟨rfl, q⟩)
end Go.Proofs.Ytcncdfmnpmmikaa.H
namespace Go.Proofs.Ytcncdfmnpmmikaa.H
open Go
set_option linter.unusedVariables false
section
variable {P : Program} {B : RO} {h0 h h' : Heap} {L : List (Option (Nat × AObj))} {r : Option (Nat × AObj)} {e : TypeId} {sz : Nat} {xs : List Value} {α : Type} {cells : α → List Value} {l : List α} {a : Option Addr} {m c : Nat}
theorem Keep.pushS (E : Keep B h0 L h) (q : Nat) {t tx : TypeId} {bz n : Nat} {zs ys : List Value} {x : Value} (hq : L[q]? = some r) (R : Row r (.slice a m c) e sz xs) (ht : slcB P t = some (e, sz, bz)) (hz : zeroB P e = some zs) (hzs : zs.length = sz) (hsz : 0 < sz) (hbz : 0 < bz) (hst : slT P tx = true)
    (hx : Src B h x sz n ys) (hb : (xs.length + ys.length) * bz ≤ 1099511627776) {K : Value → Heap → Prop}
    (hK : ∀ a' m' c' r' h'', Row r' (.slice a' m' c') e sz (xs ++ ys) → Keep B h0 (L.set q r') h'' → K (.slice a' m' c') h'') {ty : TypeId} : semH P B (Builtin.append_ #[t, tx] ty #[.slice a m c, x]) h K := by
  have tf := slT_facts hst
  refine semH_append (n := n) (ys := ys) ht hz hzs hsz hbz tf.1 tf.2 (E.sl q hq R) hx hb ?_
  intro v' h'' ap
  obtain ⟨r', R', E'⟩ := E.appd q hq R ap
  obtain ⟨a', m', c', rfl⟩ := R'.slice
  exact hK _ _ _ _ _ R' E'
theorem Row.cut (R : Row r (.slice a m c) e sz xs) {n : Nat} (hn : n ≤ m) : Row r (.slice a n c) e sz (xs.take (n * sz)) := by
  rcases R with ⟨e0, e1, e2⟩ | ⟨k, m', c', nn, js, e0, e1, e3, e4, e5⟩
  · cases e1
    have : n = 0 := by omega
    subst this
    exact .inl ⟨e0, rfl, by rw [e2]; simp⟩
  · cases e1
    have h1 : n * sz ≤ m * sz := Nat.mul_le_mul_right _ hn
    refine .inr ⟨k, n, c, nn, xs.drop (n * sz) ++ js, ?_, rfl, by rw [List.length_take]; omega, by omega, e5⟩
    rw [← List.append_assoc, List.take_append_drop]; exact e0
end
end Go.Proofs.Ytcncdfmnpmmikaa.H
namespace Go.Proofs.Ytcncdfmnpmmikaa.H
open Go
set_option linter.unusedVariables false
theorem flatMap_setR {α : Type} {cells : α → List Value} (x : α) : ∀ (l : List α) (i : Nat) (hi : i < l.length), (l.set i x).flatMap cells = (l.take i).flatMap cells ++ cells x ++ (l.drop (i + 1)).flatMap cells
  | [], i, hi => by simp at hi
  | y :: l, 0, _ => by simp
  | y :: l, i + 1, hi => by
    simp only [List.set_cons_succ, List.flatMap_cons, List.take_succ_cons, List.drop_succ_cons]
    rw [flatMap_setR x l i (by simpa using hi)]
    simp [List.append_assoc]
theorem flatMap_splitR {α : Type} {cells : α → List Value} (l : List α) (i : Nat) (hi : i < l.length) : l.flatMap cells = (l.take i).flatMap cells ++ (cells l[i] ++ (l.drop (i + 1)).flatMap cells) := by
  conv => lhs; rw [← List.take_append_drop i l, List.drop_eq_getElem_cons hi]
  rw [List.flatMap_append, List.flatMap_cons]
section
variable {P : Program} {B : RO} {h0 h h' : Heap} {L : List (Option (Nat × AObj))} {r : Option (Nat × AObj)} {e : TypeId} {sz : Nat} {α : Type} {cells : α → List Value} {l : List α} {a : Option Addr} {m c : Nat}
theorem Keep.rowSet (E : Keep B h0 L h) (q : Nat) (hq : L[q]? = some r) (R : Row r (.slice a m c) e sz (l.flatMap cells)) (hc : ∀ x, (cells x).length = sz) (hsz : 0 < sz) (i : Nat) (hi : i < l.length) (x : α) (ho : ∀ y ∈ cells x, isOne y = true) :
    ∃ A h' r', a = some A ∧ StoresAt (A.add (i * sz)) h 0 (cells x) h' ∧ Row r' (.slice a m c) e sz ((l.set i x).flatMap cells) ∧ Keep B h0 (L.set q r') h' := by
  have hfl := flatMap_length hc l
  rcases R with ⟨_, _, e2⟩ | ⟨k, m', c', nn, js, rfl, e1, e3, e4, e5⟩
  · rw [e2] at hfl
    have : l.length * sz = 0 := hfl.symm
    rcases Nat.mul_eq_zero.1 this with h | h <;> omega
  · cases e1
    have hb := E.at q hq
    have hlen := flatMap_length hc (l.take i)
    rw [List.length_take, Nat.min_eq_left (by omega)] at hlen
    have hbb := hb
    rw [flatMap_splitR l i hi, List.append_assoc, List.append_assoc] at hbb
    have htot : l.length * sz ≤ nn := by
      have : m * sz ≤ c * sz := Nat.mul_le_mul_right _ e4
      omega
    have hii : i * sz + sz ≤ l.length * sz := by
      have : (i + 1) * sz ≤ l.length * sz := Nat.mul_le_mul_right _ hi
      rw [Nat.add_mul, Nat.one_mul] at this; exact this
    obtain ⟨h2, s1, _, s3⟩ := StoresAt.over (cells x) h (i * sz) 0 _ _ ho hbb (by rw [hlen]; omega) (by rw [hc]; omega)
    have hne : cells x ≠ [] := fun e0 => by have := hc x; rw [e0] at this; simp at this; omega
    have s3 := s3 hne
    have hdrop : (cells l[i] ++ ((l.drop (i + 1)).flatMap cells ++ js)).drop (cells x).length = (l.drop (i + 1)).flatMap cells ++ js := by
      rw [hc, ← hc l[i], List.drop_left]
    rw [hdrop, ← List.append_assoc, ← flatMap_setR (cells := cells) x l i hi] at s3
    have hset : ((l.set i x).flatMap cells).length = (l.flatMap cells).length := by
      rw [flatMap_length hc, flatMap_length hc, List.length_set]
    have E2 := E.put (o' := .vec e (plains ((l.set i x).flatMap cells ++ js)) nn) q hq
    rw [← s3] at E2
    refine ⟨_, h2, _, rfl, ?_, .inr ⟨k, m, c, nn, js, rfl, rfl, by rw [hset]; exact e3, e4, e5⟩, E2⟩
    rw [addr_more, Nat.zero_add]; exact s1
end
end Go.Proofs.Ytcncdfmnpmmikaa.H
namespace Go.Proofs.Ytcncdfmnpmmikaa.H
open Go
set_option linter.unusedVariables false
theorem w64 {n : Int} (h : -9223372036854775808 ≤ n) (h' : n ≤ 9223372036854775807) : IntKind.wrap .i64 n = n := IntWalk.i64_in n ⟨h, h'⟩
theorem wu64 (n : Int) : IntKind.wrap .u64 n = n % 18446744073709551616 := by simp [IntKind.wrap, IntKind.bits, IntKind.signed]
theorem wu8 (n : Int) : IntKind.wrap .u8 n = n % 256 := IntKind.wrap_u8 n
def natB (n : Nat) : List UInt8 := if n < 128 then [UInt8.ofNat n] else UInt8.ofNat (n % 128 + 128) :: natB (n / 128)
termination_by n
decreasing_by omega
theorem natB_lo {n : Nat} (h : n < 128) : natB n = [UInt8.ofNat n] := by rw [natB, if_pos h]
theorem natB_hi {n : Nat} (h : ¬ n < 128) : natB n = UInt8.ofNat (n % 128 + 128) :: natB (n / 128) := by rw [natB, if_neg h]
theorem natB_length_le : ∀ (k n : Nat), n < 128 ^ k → 0 < k → (natB n).length ≤ k
  | 0, _, _, h => absurd h (by omega)
  | k + 1, n, hn, _ => by
    by_cases h : n < 128
    · rw [natB_lo h]; simp
    · rw [natB_hi h]
      have h0 : 0 < k := by
        cases k with
        | zero => simp at hn; omega
        | succ k => omega
      have := natB_length_le k (n / 128) (by rw [Nat.pow_succ] at hn; exact Nat.div_lt_of_lt_mul (by omega)) h0
      simp only [List.length_cons]; omega
theorem natB_length {n : Nat} (h : n < 18446744073709551616) : (natB n).length ≤ 10 := natB_length_le 10 n (by omega) (by omega)
theorem natB_pos (n : Nat) : 0 < (natB n).length := by
  rw [natB]; split <;> simp
def natI (i : Int) : List UInt8 := if i < 0 then [] else natB i.toNat
def natsB (l : List Int) : List UInt8 := l.flatMap natI
def zig (i : Int) : Nat := if i < 0 then (-2 * i - 1).toNat else (2 * i).toNat
set_option maxRecDepth 20000 in
theorem orByte (v : Nat) : (IntKind.wrap .u8 ((BitVec.ofInt (IntKind.bits .u8) (IntKind.wrap .u8 (v : Int)) ||| BitVec.ofInt (IntKind.bits .u8) (128)).toNat : Int)) = (((UInt8.ofNat (v % 128 + 128)).toNat : Nat) : Int) := by
  have key : ∀ x : _root_.Fin 256, ((BitVec.ofInt (IntKind.bits .u8) ((x.val : Nat) : Int) ||| BitVec.ofInt (IntKind.bits .u8) (128)).toNat) = x.val % 128 + 128 := by decide
  have h1 : IntKind.wrap .u8 (v : Int) = ((v % 256 : Nat) : Int) := by rw [wu8]; omega
  rw [h1]
  have h2 := key ⟨v % 256, by omega⟩
  simp only at h2
  rw [h2, wu8]
  simp only [UInt8.toNat_ofNat']
  omega
theorem lowByte {v : Nat} (h : v < 256) : (IntKind.wrap .u8 (v : Int)) = (((UInt8.ofNat v).toNat : Nat) : Int) := by
  rw [wu8]; simp only [UInt8.toNat_ofNat']; omega
theorem shr7 (v : Nat) : Int.fdiv (v : Int) (2 ^ (min (Int.toNat (7)) (IntKind.bits .i64))) = ((v / 128 : Nat) : Int) := by
  have : (2 : Int) ^ (min (Int.toNat (7)) (IntKind.bits .i64)) = 128 := by decide
  rw [this, Int.fdiv_eq_ediv_of_nonneg _ (by decide)]; omega
theorem two1 : (2 : Int) ^ (min (Int.toNat (1)) (IntKind.bits .u64)) = 2 := by decide
def bl (s : ByteArray) : List UInt8 := s.data.toList
def ba (l : List UInt8) : ByteArray := ⟨l.toArray⟩
theorem bl_ba (l : List UInt8) : bl (ba l) = l := by simp [bl, ba]
theorem ba_bl (s : ByteArray) : ba (bl s) = s := by cases s; simp [bl, ba]
theorem bl_inj {s t : ByteArray} (h : bl s = bl t) : s = t := by rw [← ba_bl s, h, ba_bl]
theorem bl_append (s t : ByteArray) : bl (s ++ t) = bl s ++ bl t := by simp [bl]
theorem ba_append (l m : List UInt8) : ba (l ++ m) = ba l ++ ba m := bl_inj (by rw [bl_append, bl_ba, bl_ba, bl_ba])
theorem bl_length (s : ByteArray) : (bl s).length = s.size := by simp [bl]
theorem ba_size (l : List UInt8) : (ba l).size = l.length := by rw [← bl_length, bl_ba]
end Go.Proofs.Ytcncdfmnpmmikaa.H
namespace Go.Proofs.Ytcncdfmnpmmikaa.H
open Go
set_option linter.unusedVariables false
set_option maxRecDepth 100000
section
variable {P : Program} {B : RO} {h0 h h' : Heap} {L : List (Option (Nat × AObj))} {r : Option (Nat × AObj)} {e : TypeId} {sz : Nat} {xs : List Value} {α : Type} {cells : α → List Value} {l : List α} {a : Option Addr} {m c : Nat}
theorem semH_appendZ {t tx ty : TypeId} {bz : Nat} {zs : List Value} {n : Nat} {ki : IntKind} {K : Value → Heap → Prop} (ht : slcB P t = some (e, sz, bz)) (hz : zeroB P e = some zs) (hzs : zs.length = sz) (hsz : 0 < sz) (hbz : 0 < bz) (hix : intB P tx = some ki)
    (hv : SlRow h (.slice a m c) e sz xs) (hgrow : c < m + n) (h0 : 0 < n) (hb : (m + n) * bz ≤ 1099511627776)
    (hk : ∀ b nc nn ys js, h b = none → B b = none → ys.length = n * sz → m + n ≤ nc → nc * sz ≤ nn → K (.slice (some ⟨b, 0, none⟩) (m + n) nc) (h.set b (.vec e (plains (xs ++ ys ++ js)) nn))) : semH P B (Builtin.append_ #[t, tx] ty #[.slice a m c, .int .i64 (n : Nat)]) h K := by
  have hn1 : n * bz ≤ 1099511627776 := Nat.le_trans (Nat.mul_le_mul_right _ (by omega)) hb
  have hn2 : n ≤ 1099511627776 := Nat.le_trans (Nat.le_mul_of_pos_right _ hbz) hn1
  have hmn : m + n ≤ 1099511627776 := Nat.le_trans (Nat.le_mul_of_pos_right _ hbz) hb
  unfold slcB at ht
  split at ht
  · rename_i e' hu
    cases hin : P.info? e' with
    | none => rw [hin] at ht; cases ht
    | some inf =>
      rw [hin] at ht
      simp only [Option.map_some, Option.some.injEq, Prod.mk.injEq] at ht
      obtain ⟨rfl, rfl, rfl⟩ := ht
      unfold Builtin.append_
      simp only [List.getElem?_toArray, List.getElem?_cons_zero, List.getElem?_cons_succ]
      rw [semH_und hu]
      dsimp only
      rw [semH_sz (n := inf.size) (by simp [szB, hin])]
      have htx : ∃ k', P.underlying tx = some (.int k') := by
        unfold intB at hix
        split at hix
        · rename_i k' hk'; exact ⟨k', hk'⟩
        · cases hix
      obtain ⟨k', hk'⟩ := htx
      rw [semH_und hk']
      have hw : IntKind.i64.wrap (n : Int) = n := IntWalk.i64_in n ⟨by omega, by omega⟩
      have hsmall : (n : Int) * (inf.bytes : Int) ≤ 1099511627776 := by
        have : ((n * inf.bytes : Nat) : Int) ≤ 1099511627776 := Int.ofNat_le.2 hn1
        rw [Int.natCast_mul] at this
        exact this
      simp only [pure_bind, if_true, asInt, asIntOf, hw]
      rw [if_neg (by omega), semH_info hin, if_neg (by show ¬ (_ > (2 : Int) ^ 48); omega)]
      simp only [Bool.not_true, Bool.false_eq_true, if_false, Int.toNat_natCast]
      rw [if_neg (by omega), semH_info hin]
      have hcap : Builtin.nextslicecap (m + n) c * inf.bytes ≤ 281474976710656 := by
        have h1 := nextcap_le (m + n) c (by omega)
        have h2 : Builtin.nextslicecap (m + n) c * inf.bytes ≤ (2 * (m + n) + 200) * inf.bytes := Nat.mul_le_mul_right _ h1
        have h3 : inf.bytes ≤ (m + n) * inf.bytes := Nat.le_mul_of_pos_left _ (by omega)
        have h4 : (2 * (m + n) + 200) * inf.bytes = 2 * ((m + n) * inf.bytes) + 200 * inf.bytes := by rw [Nat.add_mul, Nat.mul_assoc]
        omega
      have hmx : IntKind.i64.max = 9223372036854775807 := by decide
      rw [if_neg (by rw [hmx]; omega), semH_info hin, if_neg (by show ¬ (_ > 2 ^ 48); omega)]
      refine semH_choose rfl fun q => ?_
      have hcut : m + n ≤ (Question.appendCap (m + n) c e').cut q := by simp [Question.cut]
      generalize (Question.appendCap (m + n) c e').cut q = nc at hcut
      rw [semH_info hin]
      refine semH_askRoom ?_
      have hold : ∀ {α : Type} {f : Array Value → Sem α} {K : α → Heap → Prop}, semH P B (f xs.toArray) h K → semH P B (Builtin.firstCells inf.size m (.slice a m c) >>= f) h K := by
        intro α f K k
        rcases hv with ⟨h1, h2⟩ | ⟨k', m', c', nn, js, h1, h2, h3, h4, h5⟩
        · cases h1
          subst h2
          exact k
        · cases h1
          rw [semH_bind]
          show semH P B (loadCellsFrom ⟨k', 0, none⟩ 0 (m * inf.size) #[]) h _
          rw [h3]
          refine semH_loadCells xs 0 #[] (CellsAt.of_vec xs 0 h2 (fun j y hj => ?_)) ?_
          · simp only [Nat.zero_add]
            exact plains_get_some (by rw [List.getElem?_append_left (List.getElem?_eq_some_iff.1 hj).1]; exact hj)
          · simpa using k
      refine hold ?_
      have hns : ¬ (n * inf.size = 0) := by
        intro hh
        rcases Nat.mul_eq_zero.1 hh with h | h <;> omega
      rw [if_neg hns, bind_assoc]
      refine semH_zero hz fun z hzc => ?_
      have hzc' : z.cells.size = inf.size := by rw [← hzs, ← hzc]; simp
      simp only [pure_bind]
      refine semH_zero hz fun z' hzc2 => ?_
      have hzc2' : z'.cells.size = inf.size := by rw [← hzs, ← hzc2]; simp
      have hxl : xs.length = m * inf.size := by
        rcases hv with ⟨h1, h2⟩ | ⟨k', m', c', nn, js, h1, h2, h3, h4, h5⟩
        · cases h1; subst h2; simp
        · cases h1; exact h3.symm
      refine semH_newRow fun b hb1 hb2 => ?_
      have e1 : (xs.toArray ++ Builtin.zeroCells z.cells n ++ Builtin.zeroCells z'.cells (nc - (m + n))).toList = xs ++ (Builtin.zeroCells z.cells n).toList ++ (Builtin.zeroCells z'.cells (nc - (m + n))).toList := by simp
      have e2 : (xs.toArray ++ Builtin.zeroCells z.cells n ++ Builtin.zeroCells z'.cells (nc - (m + n))).size = m * inf.size + n * inf.size + (nc - (m + n)) * inf.size := by simp [zeroCells_size, hzc', hzc2', hxl, Nat.add_assoc]
      have e3 : nc * inf.size ≤ m * inf.size + n * inf.size + (nc - (m + n)) * inf.size := by
        rw [← Nat.add_mul, ← Nat.add_mul]
        exact Nat.mul_le_mul_right _ (by omega)
      have hyl : (Builtin.zeroCells z.cells n).toList.length = n * inf.size := by simp [zeroCells_size, hzc']
      rw [e1, e2]
      exact hk _ _ _ _ _ hb1 hb2 hyl hcut e3
  · cases ht
theorem semH_copySl {t tx ty : TypeId} {bz nS cS dLen cD : Nat} {A D : Addr} {ys : List Value} {K : Value → Heap → Prop} (ht : slcB P t = some (e, sz, bz)) (hc : CellsAt B h A 0 ys) (hl : ys.length = min nS dLen * sz) (st : StoresAt D h 0 ys h') (hk : K (.int .i64 ((min nS dLen : Nat) : Int)) h') :
    semH P B (Builtin.copy_ #[t, tx] ty #[.slice (some D) dLen cD, .slice (some A) nS cS]) h K := by
  unfold slcB at ht
  split at ht
  · rename_i e' hu
    cases hin : P.info? e' with
    | none => rw [hin] at ht; cases ht
    | some inf =>
      rw [hin] at ht
      simp only [Option.map_some, Option.some.injEq, Prod.mk.injEq] at ht
      obtain ⟨rfl, rfl, rfl⟩ := ht
      unfold Builtin.copy_
      simp only [List.getElem?_toArray, List.getElem?_cons_zero, List.getElem?_cons_succ]
      rw [semH_und hu]
      dsimp only
      have hlen : Builtin.lenOf (.slice (some A) nS cS) = pure nS := rfl
      rw [hlen, pure_bind, semH_sz (n := inf.size) (by simp [szB, hin])]
      rw [semH_bind]
      show semH P B (loadCellsFrom A 0 (min nS dLen * inf.size) #[]) h _
      rw [← hl]
      refine semH_loadCells ys 0 #[] hc ?_
      simp only [Array.empty_append]
      rw [semH_bind]
      exact semH_storeCells ys 0 st hk
  · cases ht
theorem semH_overlaps {t tb : TypeId} {bz la ca lb cb ka kb oa ob na nb : Nat} {fa fb : List Fld} {ea eb : TypeId} {K : Value → Heap → Prop} (ht : slcB P t = some (e, sz, bz)) (ha : h ka = some (.vec ea fa na)) (hb : h kb = some (.vec eb fb nb)) (hne : ka ≠ kb) (h5 : ea ≠ 5 ∧ eb ≠ 5) (hn : na ≠ 0 ∧ nb ≠ 0) (hk : K (.bool false) h) :
    semH P B (Extern.SlicesOverlaps.overlaps #[t, t] #[tb] #[.slice (some ⟨ka, oa, none⟩) la ca, .slice (some ⟨kb, ob, none⟩) lb cb]) h K := by
  unfold slcB at ht
  split at ht
  · rename_i e' hu
    cases hin : P.info? e' with
    | none => rw [hin] at ht; cases ht
    | some inf =>
      rw [hin] at ht
      simp only [Option.map_some, Option.some.injEq, Prod.mk.injEq] at ht
      obtain ⟨rfl, rfl, rfl⟩ := ht
      have fz : ∀ (o : Nat), frozenH B h ⟨ka, o, none⟩ = some false := fun o => by
        unfold frozenH; simp [ha, h5.1]
      have fz2 : ∀ (o : Nat), frozenH B h ⟨kb, o, none⟩ = some false := fun o => by
        unfold frozenH; simp [hb, h5.2]
      have sh : shapeH B h ka = some (some (ea, na)) := by unfold shapeH; simp [ha]
      have sh2 : shapeH B h kb = some (some (eb, nb)) := by unfold shapeH; simp [hb]
      have hbn : (ka != kb) = true := by simpa using hne
      have hbn' : (ka == kb) = false := by simpa using hne
      show semH P B (α := Value) (do
        let .slice elem ← underlying t | stuck "slices.overlaps: slice type expected"
        let size ← sizeOf elem
        if la = 0 ∨ lb = 0 ∨ size = 0 then pure (Value.bool false)
        else if ka != kb && (← frozen ⟨ka, oa, none⟩) && (← frozen ⟨kb, ob, none⟩) then unsupported .addressObserved
        else do
          if ka != kb then do
            noView ⟨ka, oa, none⟩; noView ⟨kb, ob, none⟩
            if ← mayBeOne ⟨ka, oa, none⟩ ⟨kb, ob, none⟩ then return Value.bool ((← choose (.extern "sameAddr.stringBytes" 2)) == 1)
          pure (Value.bool (ka == kb && oa < ob + lb * size && ob < oa + la * size))) h K
      rw [semH_und hu]
      dsimp only
      rw [semH_sz (n := inf.size) (by simp [szB, hin])]
      split
      · exact hk
      · have frz : ∀ {α : Type} {A : Addr} {f : Bool → Sem α} {K : α → Heap → Prop}, frozenH B h A = some false → semH P B (f false) h K → semH P B (frozen A >>= f) h K := fun {α A f K} e k => by
          rw [semH_bind]
          show semH P B (.frozen A .pure) h _
          intro b hb
          rw [hb false e]; exact k
        have shp : ∀ {α : Type} {q : Nat} {s : Option (TypeId × Nat)} {f : Option (TypeId × Nat) → Sem α} {K : α → Heap → Prop}, shapeH B h q = some s → semH P B (f s) h K → semH P B (shape q >>= f) h K := fun {α q s f K} e k => by
          rw [semH_bind]
          exact ⟨s, e, k⟩
        have nv : ∀ {α : Type} {q o : Nat} {s : TypeId × Nat} {f : Unit → Sem α} {K : α → Heap → Prop}, shapeH B h q = some (some s) → semH P B (f ()) h K → semH P B (noView ⟨q, o, none⟩ >>= f) h K := fun {α q o s f K} e k => by
          unfold noView viewAt
          simp only [bind_assoc]
          refine shp e ?_
          exact k
        have sg : ∀ {α : Type} {q o : Nat} {s : TypeId × Nat} {f : Bool → Sem α} {K : α → Heap → Prop}, shapeH B h q = some (some s) → (∀ o, frozenH B h ⟨q, o, none⟩ = some false) → semH P B (f false) h K → semH P B (stringish ⟨q, o, none⟩ >>= f) h K := fun {α q o s f K} e e2 k => by
          unfold stringish
          simp only [bind_assoc]
          refine frz (e2 _) ?_
          simp only [Bool.false_eq_true, if_false, bind_assoc]
          refine shp e ?_
          exact frz (e2 _) k
        refine frz (fz _) (frz (fz2 _) ?_)
        simp only [hbn, hbn', Bool.and_false, Bool.false_eq_true, if_false]
        refine nv sh (nv sh2 ?_)
        unfold mayBeOne
        simp only [bind_assoc]
        refine sg sh fz (sg sh2 fz2 (shp sh (shp sh2 ?_)))
        exact hk
  · cases ht
end
end Go.Proofs.Ytcncdfmnpmmikaa.H
namespace Go.Proofs.Ytcncdfmnpmmikaa.H
open Go
set_option linter.unusedVariables false
set_option maxRecDepth 100000
section
variable {P : Program} {B : RO} {h0 h h' : Heap} {L : List (Option (Nat × AObj))} {r : Option (Nat × AObj)} {e : TypeId} {sz : Nat} {xs : List Value} {a : Option Addr} {m c : Nat}
theorem optAddZ (a : Option Addr) (n k : Nat) : (if n = 0 then a else Option.map (fun x => Addr.add x (0 * k)) a) = a := by
  split
  · rfl
  · cases a
    · rfl
    · show some (Addr.add _ (0 * k)) = _
      rw [Nat.zero_mul]; rfl
theorem up_app {L : List (Option (Nat × AObj))} {j : Nat} {x : Option (Nat × AObj)} (y : List (Option (Nat × AObj))) (hj : L[j]? = some x) : (L ++ y)[j]? = some x := by
  rw [List.getElem?_append_left (List.getElem?_eq_some_iff.1 hj).1]; exact hj
theorem Keep.remap {L' : List (Option (Nat × AObj))} (E : Keep B h0 L h) (f : Nat → Nat) (hf : ∀ (i : Nat) (y : Nat × AObj), L'[i]? = some (some y) → L[f i]? = some (some y)) (hi : ∀ i j, i < L'.length → j < L'.length → f i = f j → i = j) : Keep B h0 L' h :=
  ⟨E.le, E.nw, fun i k o e => E.z _ k o (hf i _ e), fun i k o e => E.get _ k o (hf i _ e), fun i j k o o' e e' => hi i j (List.getElem?_eq_some_iff.1 e).1 (List.getElem?_eq_some_iff.1 e').1 (E.nd _ _ _ _ _ (hf i _ e) (hf j _ e'))⟩
theorem Keep.moveLast {x : Option (Nat × AObj)} (E : Keep B h0 (L ++ [x]) h) (q : Nat) : Keep B h0 (L.set q x) h := by
  let f : Nat → Nat := fun i => if i = q then L.length else i
  have key : ∀ (i : Nat) (y : Nat × AObj), (L.set q x)[i]? = some (some y) → (L ++ [x])[f i]? = some (some y) ∧ i < L.length := fun i y hi => by
    have hl := (List.getElem?_eq_some_iff.1 hi).1
    rw [List.length_set] at hl
    by_cases h : i = q
    · subst h
      rw [List.getElem?_set_self hl] at hi
      simp [f]; exact ⟨Option.some.inj hi, hl⟩
    · rw [List.getElem?_set_ne (Ne.symm h)] at hi
      simp only [f, if_neg h]
      rw [List.getElem?_append_left hl]; exact ⟨hi, hl⟩
  refine ⟨E.le, E.nw, fun i k o e => E.z _ k o (key i _ e).1, fun i k o e => E.get _ k o (key i _ e).1, fun i j k o o' e e' => ?_⟩
  obtain ⟨a1, a2⟩ := key i _ e
  obtain ⟨b1, b2⟩ := key j _ e'
  have := E.nd _ _ _ _ _ a1 b1
  simp only [f] at this
  by_cases h1 : i = q <;> by_cases h2 : j = q
  · rw [h1, h2]
  · rw [if_pos h1, if_neg h2] at this; omega
  · rw [if_neg h1, if_pos h2] at this; omega
  · rw [if_neg h1, if_neg h2] at this; exact this
theorem Keep.storesV (E : Keep B h0 L h) (i : Nat) {k nn : Nat} {t : TypeId} {fs gs : List Value} (hi : L[i]? = some (some (k, .vec t (plains (fs ++ gs)) nn))) (ys : List Value) (ho : ∀ y ∈ ys, isOne y = true) (o : Nat) (hf : fs.length = o) (hn : o + ys.length ≤ nn) :
    ∃ h', StoresAt ⟨k, o, none⟩ h 0 ys h' ∧ Keep B h0 (L.set i (some (k, .vec t (plains (fs ++ ys ++ gs.drop ys.length)) nn))) h' := by
  obtain ⟨h', s1, s2, s3⟩ := StoresAt.over ys h o 0 fs gs ho (E.at i hi) (by omega) (by omega)
  refine ⟨h', s1, ?_⟩
  by_cases hy : ys = []
  · rw [s2 hy, hy]
    have : L.set i (some (k, .vec t (plains (fs ++ [] ++ gs.drop ([] : List Value).length)) nn)) = L := by
      obtain ⟨hl, e⟩ := List.getElem?_eq_some_iff.1 hi
      rw [List.append_nil, List.length_nil, List.drop_zero, ← e]; exact List.set_getElem_self hl
    rw [this]; exact E
  · rw [s3 hy]; exact E.put i hi
theorem Keep.storesLast {k nn : Nat} {t : TypeId} {fs gs : List Value} (E : Keep B h0 (L ++ [some (k, .vec t (plains (fs ++ gs)) nn)]) h) (ys : List Value) (ho : ∀ y ∈ ys, isOne y = true) (o : Nat) (hf : fs.length = o) (hn : o + ys.length ≤ nn) :
    ∃ h', StoresAt ⟨k, o, none⟩ h 0 ys h' ∧ Keep B h0 (L ++ [some (k, .vec t (plains (fs ++ ys ++ gs.drop ys.length)) nn)]) h' := by
  obtain ⟨h', s, E'⟩ := E.storesV L.length (by rw [List.getElem?_append_right (Nat.le_refl _), Nat.sub_self]; rfl) ys ho o hf hn
  rw [List.set_append_right _ _ (Nat.le_refl _), Nat.sub_self] at E'
  exact ⟨h', s, E'⟩
theorem Keep.cellsV (E : Keep B h0 L h) (i : Nat) {k nn : Nat} {t : TypeId} {fs ys gs : List Value} (hi : L[i]? = some (some (k, .vec t (plains (fs ++ ys ++ gs)) nn))) (o : Nat) (hf : fs.length = o) : CellsAt B h ⟨k, o, none⟩ 0 ys :=
  CellsAt.of_vec ys 0 (E.at i hi) fun j y hj => by
    have hl := (List.getElem?_eq_some_iff.1 hj).1
    rw [plains_get, Nat.add_zero, List.append_assoc, List.getElem?_append_right (by omega), show o + j - fs.length = j by omega, List.getElem?_append_left hl, hj]
    rfl
def InsP (P : Program) (ts sz tb ti : Nat) (rot : RO → Option Addr → Nat → Nat → Int → Heap → (Heap → Prop) → Prop) (B : RO) (a1 : Option Addr) (n2 : Nat) (c3 : Nat) (i4 : Int) (a5 : Option Addr) (n6 : Nat) (c7 : Nat) (h : Heap) (Q : Option Addr → Nat → Nat → Heap → Prop) : Prop :=
 0 ≤ (i4 : Int) ∧ (i4 : Int) ≤ ((n2 : Nat) : Int) ∧ ((n2 : Nat) : Int) ≤ (c3 : Nat) ∧
 (((n6 : Nat) : Int) = 0 →
 Fin B h (Q a1 n2 c3)) ∧ (¬ (((n6 : Nat) : Int) = 0) →
 ((i4 : Int) = (n2 : Nat) →
 semH P B (Builtin.append_ #[ts, ts] ts #[(Value.slice a1 n2 c3), (Value.slice a5 n6 c7)]) h (fun v h13 => ∃ a14 : Option Addr, ∃ n15 : Nat, ∃ c16 : Nat, v = (Value.slice a14 n15 c16) ∧
 Fin B h13 (Q a14 n15 c16))) ∧ (¬ ((i4 : Int) = (n2 : Nat)) →
 ((IntKind.wrap .i64 (((n2 : Nat)) + ((n6 : Nat))) : Int) > ((c3 : Nat)) →
 0 ≤ (0 : Int) ∧ (0 : Int) ≤ (i4 : Int) ∧ (i4 : Int) ≤ (c3 : Nat) ∧
 semH P B (Builtin.append_ #[ts, ti] ts #[(Value.slice (if c3 = Int.toNat (0) then a1 else Option.map (·.add (Int.toNat (0) * sz)) a1) (Int.toNat (i4) - Int.toNat (0)) (c3 - Int.toNat (0))), (Value.int .i64 (IntKind.wrap .i64 ((IntKind.wrap .i64 (((n2 : Nat)) + ((n6 : Nat)))) - (i4))))]) h (fun v h18 => ∃ a19 : Option Addr, ∃ n20 : Nat, ∃ c21 : Nat, v = (Value.slice a19 n20 c21) ∧
 0 ≤ (i4 : Int) ∧ (i4 : Int) ≤ ((n20 : Nat) : Int) ∧ ((n20 : Nat) : Int) ≤ (c21 : Nat) ∧
 semH P B (Builtin.copy_ #[ts, ts] ti #[(Value.slice (if c21 = Int.toNat (i4) then a19 else Option.map (·.add (Int.toNat (i4) * sz)) a19) (Int.toNat ((n20 : Nat)) - Int.toNat (i4)) (c21 - Int.toNat (i4))), (Value.slice a5 n6 c7)]) h18 (fun v h22 => ∃ i23 : Int, v = (Value.int .i64 (i23)) ∧
 0 ≤ (IntKind.wrap .i64 ((i4) + ((n6 : Nat))) : Int) ∧ (IntKind.wrap .i64 ((i4) + ((n6 : Nat))) : Int) ≤ ((n20 : Nat) : Int) ∧ ((n20 : Nat) : Int) ≤ (c21 : Nat) ∧
 0 ≤ (i4 : Int) ∧ (i4 : Int) ≤ ((n2 : Nat) : Int) ∧ ((n2 : Nat) : Int) ≤ (c3 : Nat) ∧
 semH P B (Builtin.copy_ #[ts, ts] ti #[(Value.slice (if c21 = Int.toNat (IntKind.wrap .i64 ((i4) + ((n6 : Nat)))) then a19 else Option.map (·.add (Int.toNat (IntKind.wrap .i64 ((i4) + ((n6 : Nat)))) * sz)) a19) (Int.toNat ((n20 : Nat)) - Int.toNat (IntKind.wrap .i64 ((i4) + ((n6 : Nat))))) (c21 - Int.toNat (IntKind.wrap .i64 ((i4) + ((n6 : Nat)))))), (Value.slice (if c3 = Int.toNat (i4) then a1 else Option.map (·.add (Int.toNat (i4) * sz)) a1) (Int.toNat ((n2 : Nat)) - Int.toNat (i4)) (c3 - Int.toNat (i4)))]) h22 (fun v h24 => ∃ i25 : Int, v = (Value.int .i64 (i25)) ∧
 Fin B h24 (Q a19 n20 c21))))) ∧ (¬ ((IntKind.wrap .i64 (((n2 : Nat)) + ((n6 : Nat))) : Int) > ((c3 : Nat))) →
 0 ≤ (0 : Int) ∧ (0 : Int) ≤ (IntKind.wrap .i64 (((n2 : Nat)) + ((n6 : Nat))) : Int) ∧ (IntKind.wrap .i64 (((n2 : Nat)) + ((n6 : Nat))) : Int) ≤ (c3 : Nat) ∧
 0 ≤ (IntKind.wrap .i64 ((i4) + ((n6 : Nat))) : Int) ∧ (IntKind.wrap .i64 ((i4) + ((n6 : Nat))) : Int) ≤ (((Int.toNat (IntKind.wrap .i64 (((n2 : Nat)) + ((n6 : Nat)))) - Int.toNat (0)) : Nat) : Int) ∧ (((Int.toNat (IntKind.wrap .i64 (((n2 : Nat)) + ((n6 : Nat)))) - Int.toNat (0)) : Nat) : Int) ≤ ((c3 - Int.toNat (0)) : Nat) ∧
 semH P B (Extern.SlicesOverlaps.overlaps #[ts, ts] #[tb] #[(Value.slice a5 n6 c7), (Value.slice (if (c3 - Int.toNat (0)) = Int.toNat (IntKind.wrap .i64 ((i4) + ((n6 : Nat)))) then (if c3 = Int.toNat (0) then a1 else Option.map (·.add (Int.toNat (0) * sz)) a1) else Option.map (·.add (Int.toNat (IntKind.wrap .i64 ((i4) + ((n6 : Nat)))) * sz)) (if c3 = Int.toNat (0) then a1 else Option.map (·.add (Int.toNat (0) * sz)) a1)) (Int.toNat (((Int.toNat (IntKind.wrap .i64 (((n2 : Nat)) + ((n6 : Nat)))) - Int.toNat (0)) : Nat)) - Int.toNat (IntKind.wrap .i64 ((i4) + ((n6 : Nat))))) ((c3 - Int.toNat (0)) - Int.toNat (IntKind.wrap .i64 ((i4) + ((n6 : Nat))))))]) h (fun v h26 => ∃ b27 : Bool, v = (Value.bool b27) ∧
 (b27 = true →
 0 ≤ ((n2 : Nat) : Int) ∧ ((n2 : Nat) : Int) ≤ (((Int.toNat (IntKind.wrap .i64 (((n2 : Nat)) + ((n6 : Nat)))) - Int.toNat (0)) : Nat) : Int) ∧ (((Int.toNat (IntKind.wrap .i64 (((n2 : Nat)) + ((n6 : Nat)))) - Int.toNat (0)) : Nat) : Int) ≤ ((c3 - Int.toNat (0)) : Nat) ∧
 semH P B (Builtin.copy_ #[ts, ts] ti #[(Value.slice (if (c3 - Int.toNat (0)) = Int.toNat ((n2 : Nat)) then (if c3 = Int.toNat (0) then a1 else Option.map (·.add (Int.toNat (0) * sz)) a1) else Option.map (·.add (Int.toNat ((n2 : Nat)) * sz)) (if c3 = Int.toNat (0) then a1 else Option.map (·.add (Int.toNat (0) * sz)) a1)) (Int.toNat (((Int.toNat (IntKind.wrap .i64 (((n2 : Nat)) + ((n6 : Nat)))) - Int.toNat (0)) : Nat)) - Int.toNat ((n2 : Nat))) ((c3 - Int.toNat (0)) - Int.toNat ((n2 : Nat)))), (Value.slice a5 n6 c7)]) h26 (fun v h32 => ∃ i33 : Int, v = (Value.int .i64 (i33)) ∧
 0 ≤ (i4 : Int) ∧ (i4 : Int) ≤ (((Int.toNat (IntKind.wrap .i64 (((n2 : Nat)) + ((n6 : Nat)))) - Int.toNat (0)) : Nat) : Int) ∧ (((Int.toNat (IntKind.wrap .i64 (((n2 : Nat)) + ((n6 : Nat)))) - Int.toNat (0)) : Nat) : Int) ≤ ((c3 - Int.toNat (0)) : Nat) ∧
 rot B (if (c3 - Int.toNat (0)) = Int.toNat (i4) then (if c3 = Int.toNat (0) then a1 else Option.map (·.add (Int.toNat (0) * sz)) a1) else Option.map (·.add (Int.toNat (i4) * sz)) (if c3 = Int.toNat (0) then a1 else Option.map (·.add (Int.toNat (0) * sz)) a1)) (Int.toNat (((Int.toNat (IntKind.wrap .i64 (((n2 : Nat)) + ((n6 : Nat)))) - Int.toNat (0)) : Nat)) - Int.toNat (i4)) ((c3 - Int.toNat (0)) - Int.toNat (i4)) ((n6 : Nat)) h32 (fun h34 =>
 Fin B h34 (Q (if c3 = Int.toNat (0) then a1 else Option.map (·.add (Int.toNat (0) * sz)) a1) (Int.toNat (IntKind.wrap .i64 (((n2 : Nat)) + ((n6 : Nat)))) - Int.toNat (0)) (c3 - Int.toNat (0)))))) ∧ (b27 = false →
 0 ≤ (IntKind.wrap .i64 ((i4) + ((n6 : Nat))) : Int) ∧ (IntKind.wrap .i64 ((i4) + ((n6 : Nat))) : Int) ≤ (((Int.toNat (IntKind.wrap .i64 (((n2 : Nat)) + ((n6 : Nat)))) - Int.toNat (0)) : Nat) : Int) ∧ (((Int.toNat (IntKind.wrap .i64 (((n2 : Nat)) + ((n6 : Nat)))) - Int.toNat (0)) : Nat) : Int) ≤ ((c3 - Int.toNat (0)) : Nat) ∧
 0 ≤ (i4 : Int) ∧ (i4 : Int) ≤ (((Int.toNat (IntKind.wrap .i64 (((n2 : Nat)) + ((n6 : Nat)))) - Int.toNat (0)) : Nat) : Int) ∧ (((Int.toNat (IntKind.wrap .i64 (((n2 : Nat)) + ((n6 : Nat)))) - Int.toNat (0)) : Nat) : Int) ≤ ((c3 - Int.toNat (0)) : Nat) ∧
 semH P B (Builtin.copy_ #[ts, ts] ti #[(Value.slice (if (c3 - Int.toNat (0)) = Int.toNat (IntKind.wrap .i64 ((i4) + ((n6 : Nat)))) then (if c3 = Int.toNat (0) then a1 else Option.map (·.add (Int.toNat (0) * sz)) a1) else Option.map (·.add (Int.toNat (IntKind.wrap .i64 ((i4) + ((n6 : Nat)))) * sz)) (if c3 = Int.toNat (0) then a1 else Option.map (·.add (Int.toNat (0) * sz)) a1)) (Int.toNat (((Int.toNat (IntKind.wrap .i64 (((n2 : Nat)) + ((n6 : Nat)))) - Int.toNat (0)) : Nat)) - Int.toNat (IntKind.wrap .i64 ((i4) + ((n6 : Nat))))) ((c3 - Int.toNat (0)) - Int.toNat (IntKind.wrap .i64 ((i4) + ((n6 : Nat)))))), (Value.slice (if (c3 - Int.toNat (0)) = Int.toNat (i4) then (if c3 = Int.toNat (0) then a1 else Option.map (·.add (Int.toNat (0) * sz)) a1) else Option.map (·.add (Int.toNat (i4) * sz)) (if c3 = Int.toNat (0) then a1 else Option.map (·.add (Int.toNat (0) * sz)) a1)) (Int.toNat (((Int.toNat (IntKind.wrap .i64 (((n2 : Nat)) + ((n6 : Nat)))) - Int.toNat (0)) : Nat)) - Int.toNat (i4)) ((c3 - Int.toNat (0)) - Int.toNat (i4)))]) h26 (fun v h28 => ∃ i29 : Int, v = (Value.int .i64 (i29)) ∧
 0 ≤ (i4 : Int) ∧ (i4 : Int) ≤ (((Int.toNat (IntKind.wrap .i64 (((n2 : Nat)) + ((n6 : Nat)))) - Int.toNat (0)) : Nat) : Int) ∧ (((Int.toNat (IntKind.wrap .i64 (((n2 : Nat)) + ((n6 : Nat)))) - Int.toNat (0)) : Nat) : Int) ≤ ((c3 - Int.toNat (0)) : Nat) ∧
 semH P B (Builtin.copy_ #[ts, ts] ti #[(Value.slice (if (c3 - Int.toNat (0)) = Int.toNat (i4) then (if c3 = Int.toNat (0) then a1 else Option.map (·.add (Int.toNat (0) * sz)) a1) else Option.map (·.add (Int.toNat (i4) * sz)) (if c3 = Int.toNat (0) then a1 else Option.map (·.add (Int.toNat (0) * sz)) a1)) (Int.toNat (((Int.toNat (IntKind.wrap .i64 (((n2 : Nat)) + ((n6 : Nat)))) - Int.toNat (0)) : Nat)) - Int.toNat (i4)) ((c3 - Int.toNat (0)) - Int.toNat (i4))), (Value.slice a5 n6 c7)]) h28 (fun v h30 => ∃ i31 : Int, v = (Value.int .i64 (i31)) ∧
 Fin B h30 (Q (if c3 = Int.toNat (0) then a1 else Option.map (·.add (Int.toNat (0) * sz)) a1) (Int.toNat (IntKind.wrap .i64 (((n2 : Nat)) + ((n6 : Nat)))) - Int.toNat (0)) (c3 - Int.toNat (0))))))))))
theorem insP_wp {ts tb ti bz kx c7 : Nat} {ki : IntKind} {zs ys : List Value} {rot : RO → Option Addr → Nat → Nat → Int → Heap → (Heap → Prop) → Prop} {Q : Option Addr → Nat → Nat → Heap → Prop}
    (ht : slcB P ts = some (e, sz, bz)) (hz : zeroB P e = some zs) (hzs : zs.length = sz) (hsz : 0 < sz) (hbz : 0 < bz) (hst : slT P ts = true) (hti : intB P ti = some ki) (h5 : e ≠ 5)
    (E : Keep B h0 L h) (q : Nat) (hq : L[q]? = some r) (R : Row r (.slice a m c) e sz xs) (hxo : ∀ y ∈ xs, isOne y = true) (j : Nat) (hj : L[j]? = some (some (kx, .vec e (plains ys) sz))) (hys : ys.length = sz) (hone : ∀ y ∈ ys, isOne y = true) (hjq : j ≠ q) (i : Nat) (hi : i ≤ m) (hb : (xs.length + sz) * bz ≤ 1099511627776)
    (hQ : ∀ a' c' r' h', Row r' (.slice a' (m + 1) c') e sz (xs.take (i * sz) ++ ys ++ xs.drop (i * sz)) → Keep B h0 (L.set q r') h' → Q a' (m + 1) c' h') : InsP P ts sz tb ti rot B a m c (i : Nat) (some ⟨kx, 0, none⟩) 1 c7 h Q := by
  have hmx := Row.len R
  have hcap := Row.cap R
  have hm1 : m ≤ xs.length := by rw [← hmx]; exact Nat.le_mul_of_pos_right _ hsz
  have hlim : xs.length + sz ≤ 1099511627776 := Nat.le_trans (Nat.le_mul_of_pos_right _ hbz) hb
  have hw1 : IntKind.wrap .i64 (((m : Nat) : Int) + ((1 : Nat) : Int)) = ((m + 1 : Nat) : Int) := by rw [w64 (by omega) (by omega)]; omega
  have hw2 : IntKind.wrap .i64 (((i : Nat) : Int) + ((1 : Nat) : Int)) = ((i + 1 : Nat) : Int) := by rw [w64 (by omega) (by omega)]; omega
  have hw3 : IntKind.wrap .i64 (((m + 1 : Nat) : Int) - ((i : Nat) : Int)) = ((m + 1 - i : Nat) : Int) := by rw [w64 (by omega) (by omega)]; omega
  have him : i * sz ≤ m * sz := Nat.mul_le_mul_right _ hi
  have hsrc : ∀ {L' : List (Option (Nat × AObj))} {h1 : Heap}, Keep B h0 L' h1 → L'[j]? = some (some (kx, .vec e (plains ys) sz)) → CellsAt B h1 ⟨kx, 0, none⟩ 0 ys := fun E1 hj1 => E1.cellsV (fs := []) (gs := []) j (by rw [List.append_nil]; exact hj1) 0 rfl
  unfold InsP
  simp only [hw1, hw2, hw3, Int.toNat_natCast, Int.toNat_zero, Nat.sub_zero, optAddZ]
  refine ⟨by omega, by omega, by omega, fun e0 => absurd e0 (by decide), fun _ => ⟨fun hin => ?_, fun hin => ⟨fun hgr => ?_, fun hroom => ?_⟩⟩⟩
  · refine E.pushS q (n := 1) (ys := ys) hq R ht hz hzs hsz hbz hst ⟨by omega, hone, .inl ⟨_, _, rfl, hsrc E hj⟩⟩ (by rw [hys]; exact hb) fun a' m' c' r' h'' R' E' => ?_
    have hm' := Row.len R'
    have : m' = m + 1 := by
      have h1 : m' * sz = (m + 1) * sz := by rw [hm', List.length_append, hys, Nat.add_mul, hmx, Nat.one_mul]
      exact Nat.eq_of_mul_eq_mul_right hsz h1
    subst this
    have hie : i = m := by omega
    refine ⟨_, _, _, rfl, Fin.of (hQ _ _ _ _ ?_ E')⟩
    rw [hie, hmx, List.take_length, List.drop_length, List.append_nil]; exact R'
  · have hil : i < m := by omega
    have Rc := R.cut (n := i) hi
    refine ⟨by omega, by omega, by omega, semH_appendZ (n := m + 1 - i) (m := i) ht hz hzs hsz hbz hti (E.sl q hq Rc) (by omega) (by omega) ?_ fun b nc nn zz js hb1 hb2 hzl hnc hnn => ?_⟩
    · refine Nat.le_trans (Nat.mul_le_mul_right _ ?_) hb
      omega
    have him1 : (i + 1) * sz ≤ m * sz := Nat.mul_le_mul_right _ hil
    have e1 : (i + 1) * sz = i * sz + sz := by rw [Nat.add_mul, Nat.one_mul]
    have e2 : (m + 1 - i) * sz + i * sz = m * sz + sz := by rw [← Nat.add_mul, show m + 1 - i + i = m + 1 by omega, Nat.add_mul, Nat.one_mul]
    have hnc2 : (i + (m + 1 - i)) * sz ≤ nc * sz := Nat.mul_le_mul_right _ hnc
    rw [Nat.add_mul] at hnc2
    have htl : (xs.take (i * sz)).length = i * sz := by rw [List.length_take]; omega
    have E1 := E.new (o := .vec e (plains (xs.take (i * sz) ++ (zz ++ js))) nn) hb1 hb2
    rw [List.append_assoc]
    refine ⟨_, _, _, rfl, by omega, by omega, by omega, ?_⟩
    rw [if_neg (by omega), Option.map_some, addr_more, Nat.zero_add]
    obtain ⟨h22, st, E2⟩ := E1.storesLast ys hone (i * sz) htl (by omega)
    refine semH_copySl ht (hsrc E1 (by rw [List.getElem?_append_left (List.getElem?_eq_some_iff.1 hj).1]; exact hj)) (by rw [Nat.min_eq_left (by omega)]; omega) st ⟨_, rfl, by omega, by omega, by omega, by omega, by omega, by omega, ?_⟩
    rcases R with ⟨_, e3, e4⟩ | ⟨k, m', c', nk, jk, rfl, e3, e4, e5, e6⟩
    · cases e3; omega
    cases e3
    rw [if_neg (by omega), Option.map_some, addr_more, Nat.zero_add, if_neg (by omega), Option.map_some, addr_more, Nat.zero_add]
    have hql : q < L.length := (List.getElem?_eq_some_iff.1 hq).1
    have hdl : (xs.drop (i * sz)).length = (m - i) * sz := by rw [List.length_drop, Nat.sub_mul]; omega
    have hc2 : CellsAt B h22 ⟨k, i * sz, none⟩ 0 (xs.drop (i * sz)) := E2.cellsV (fs := xs.take (i * sz)) (gs := jk) q (by rw [List.getElem?_append_left hql, hq, List.take_append_drop]) (i * sz) htl
    obtain ⟨h24, st2, E3⟩ := E2.storesLast (xs.drop (i * sz)) (fun y hy => hxo y (List.mem_of_mem_drop hy)) ((i + 1) * sz) (by rw [List.length_append, htl, hys]; omega) (by rw [List.length_drop]; omega)
    refine semH_copySl ht hc2 (by rw [hdl, Nat.min_eq_left (by omega)]) st2 ⟨_, rfl, Fin.of ?_⟩
    have e7 : i + (m + 1 - i) = m + 1 := by omega
    rw [e7]
    refine hQ _ _ _ _ (.inr ⟨b, m + 1, nc, nn, _, rfl, rfl, ?_, by omega, hnn⟩) (E3.moveLast q)
    rw [List.length_append, List.length_append, htl, hys, List.length_drop, Nat.add_mul, Nat.one_mul]; omega
  · have hil : i < m := by omega
    have hmc : m + 1 ≤ c := by omega
    rcases R with ⟨_, e3, e4⟩ | ⟨k, m', c', nk, jk, rfl, e3, e4, e5, e6⟩
    · cases e3; omega
    cases e3
    have him1 : (i + 1) * sz ≤ m * sz := Nat.mul_le_mul_right _ hil
    have e1 : (i + 1) * sz = i * sz + sz := by rw [Nat.add_mul, Nat.one_mul]
    have hmc2 : (m + 1) * sz ≤ c * sz := Nat.mul_le_mul_right _ hmc
    rw [Nat.add_mul, Nat.one_mul] at hmc2
    have htl : (xs.take (i * sz)).length = i * sz := by rw [List.length_take]; omega
    have htl1 : (xs.take ((i + 1) * sz)).length = (i + 1) * sz := by rw [List.length_take]; omega
    have hql : q < L.length := (List.getElem?_eq_some_iff.1 hq).1
    refine ⟨by omega, by omega, by omega, by omega, by omega, by omega, ?_⟩
    have ni1 : ¬ c = i + 1 := by omega
    have ni : ¬ c = i := by omega
    simp only [if_neg ni1, if_neg ni, Option.map_some, addr_more, Nat.zero_add]
    refine semH_overlaps ht (E.at j hj) (E.at q hq) (fun e0 => hjq (E.nd j q kx _ _ hj (by rw [e0]; exact hq))) ⟨h5, h5⟩ ⟨by omega, by omega⟩ ⟨_, rfl, fun e0 => (by cases e0), fun _ => ⟨by omega, by omega, by omega, by omega, by omega, by omega, ?_⟩⟩
    have hdl : (xs.drop (i * sz)).length = (m - i) * sz := by rw [List.length_drop, Nat.sub_mul]; omega
    have hc2 : CellsAt B h ⟨k, i * sz, none⟩ 0 (xs.drop (i * sz)) := E.cellsV (fs := xs.take (i * sz)) (gs := jk) q (by rw [hq, List.take_append_drop]) (i * sz) htl
    obtain ⟨h28, st, E2⟩ := E.storesV q (fs := xs.take ((i + 1) * sz)) (gs := xs.drop ((i + 1) * sz) ++ jk) (by rw [hq, ← List.append_assoc, List.take_append_drop]) (xs.drop (i * sz)) (fun y hy => hxo y (List.mem_of_mem_drop hy)) ((i + 1) * sz) htl1 (by rw [List.length_drop]; omega)
    refine semH_copySl ht hc2 (by rw [hdl, Nat.min_eq_right (by omega)]; congr 1; omega) st ⟨_, rfl, by omega, by omega, by omega, ?_⟩
    have e8 : xs.take ((i + 1) * sz) = xs.take (i * sz) ++ (xs.drop (i * sz)).take sz := by rw [e1, List.take_add]
    generalize hrest : (xs.drop ((i + 1) * sz) ++ jk).drop (xs.drop (i * sz)).length = rest at E2
    obtain ⟨h30, st2, E3⟩ := E2.storesV q (k := k) (nn := nk) (t := e) (fs := xs.take (i * sz)) (gs := (xs.drop (i * sz)).take sz ++ (xs.drop (i * sz) ++ rest)) (by rw [List.getElem?_set_self hql, e8]; simp only [List.append_assoc]) ys hone (i * sz) htl (by omega)
    refine semH_copySl ht (hsrc E2 (by rw [List.getElem?_set_ne (Ne.symm hjq)]; exact hj)) (by rw [Nat.min_eq_left (by omega)]; omega) st2 ⟨_, rfl, Fin.of ?_⟩
    rw [List.set_set] at E3
    have e9 : ((xs.drop (i * sz)).take sz ++ (xs.drop (i * sz) ++ rest)).drop ys.length = xs.drop (i * sz) ++ rest := by
      rw [List.drop_left']
      rw [List.length_take, List.length_drop, hys]; omega
    rw [e9, ← List.append_assoc] at E3
    refine hQ _ _ _ _ (.inr ⟨k, m + 1, c, nk, rest, rfl, rfl, ?_, hmc, e6⟩) E3
    rw [List.length_append, List.length_append, htl, hys, List.length_drop, Nat.add_mul, Nat.one_mul]; omega
end
end Go.Proofs.Ytcncdfmnpmmikaa.H
namespace Go.Proofs.Ytcncdfmnpmmikaa.H
open Go
set_option linter.unusedVariables false
section
variable {V : Type} {l m : List (Int × V)} {i j : Int} {v : V} {p : Nat} {x : Int × V}
def insD : List (Int × V) → Int → V → List (Int × V)
  | [], i, v => [(i, v)]
  | y :: t, i, v => if y.1 < i then y :: insD t i v else if y.1 = i then (i, v) :: t else (i, v) :: y :: t
def SortD (l : List (Int × V)) : Prop := l.Pairwise fun x y => x.1 < y.1
def atD (l : List (Int × V)) (i : Int) : Option V := (l.find? fun x => x.1 == i).map (·.2)
structure PosD (l : List (Int × V)) (i : Int) (p : Nat) : Prop where
  le : p ≤ l.length
  lo : ∀ (q : Nat) (x : Int × V), q < p → l[q]? = some x → x.1 < i
  hi : ∀ (q : Nat) (x : Int × V), p ≤ q → l[q]? = some x → i ≤ x.1
def foundD (l : List (Int × V)) (p : Nat) (i : Int) : Bool := match l[p]? with
  | some x => x.1 == i
  | none => false
theorem PosD.tail {y : Int × V} (k : PosD (y :: l) i (p + 1)) : PosD l i p :=
  ⟨by have := k.le; simp at this; exact this, fun q x hq hx => k.lo (q + 1) x (by omega) (by simpa using hx), fun q x hq hx => k.hi (q + 1) x (by omega) (by simpa using hx)⟩
theorem insD_new : ∀ {l : List (Int × V)} {p : Nat}, PosD l i p → foundD l p i = false → insD l i v = l.take p ++ (i, v) :: l.drop p
  | [], p, k, _ => by
    have := k.le; simp at this; subst this; rfl
  | y :: t, 0, k, hf => by
    have h1 := k.hi 0 y (Nat.le_refl _) rfl
    have h2 : y.1 ≠ i := by simpa [foundD] using hf
    rw [insD, if_neg (by omega), if_neg h2]; rfl
  | y :: t, p + 1, k, hf => by
    have h1 := k.lo 0 y (by omega) rfl
    rw [insD, if_pos h1, insD_new k.tail (by simpa [foundD] using hf)]; rfl
theorem insD_old : ∀ {l : List (Int × V)} {p : Nat}, PosD l i p → foundD l p i = true → insD l i v = l.set p (i, v)
  | [], p, k, hf => by simp [foundD] at hf
  | y :: t, 0, k, hf => by
    have h2 : y.1 = i := by simpa [foundD] using hf
    rw [insD, if_neg (by omega), if_pos h2]; rfl
  | y :: t, p + 1, k, hf => by
    have h1 := k.lo 0 y (by omega) rfl
    rw [insD, if_pos h1, insD_old k.tail (by simpa [foundD] using hf)]; rfl
theorem foundD_some (hf : foundD l p i = true) : ∃ x, l[p]? = some x ∧ x.1 = i := by
  unfold foundD at hf
  split at hf
  · rename_i x hx; exact ⟨x, hx, by simpa using hf⟩
  · cases hf
theorem atD_old : ∀ {l : List (Int × V)} {p : Nat} {x : Int × V}, PosD l i p → l[p]? = some x → x.1 = i → atD l i = some x.2
  | [], p, x, _, h, _ => by simp at h
  | y :: t, 0, x, k, h, e => by
    simp at h; subst h
    simp [atD, e]
  | y :: t, p + 1, x, k, h, e => by
    have h1 := k.lo 0 y (by omega) rfl
    have := atD_old k.tail (by simpa using h) e
    have hn : (y.1 == i) = false := by simp; omega
    simp only [atD, List.find?_cons, hn]
    exact this
theorem atD_new : ∀ {l : List (Int × V)} {p : Nat}, SortD l → PosD l i p → foundD l p i = false → atD l i = none
  | [], p, _, _, _ => rfl
  | y :: t, 0, s, k, hf => by
    have h1 := k.hi 0 y (Nat.le_refl _) rfl
    have h2 : y.1 ≠ i := by simpa [foundD] using hf
    rw [SortD, List.pairwise_cons] at s
    unfold atD
    rw [Option.map_eq_none_iff, List.find?_eq_none]
    intro z hz
    rcases List.mem_cons.1 hz with rfl | hz
    · simpa using h2
    · have := s.1 z hz
      simp; omega
  | y :: t, p + 1, s, k, hf => by
    have h1 := k.lo 0 y (by omega) rfl
    rw [SortD, List.pairwise_cons] at s
    have := atD_new s.2 k.tail (by simpa [foundD] using hf)
    have hn : (y.1 == i) = false := by simp; omega
    simp only [atD, List.find?_cons, hn]
    exact this
theorem insD_mem : ∀ {l : List (Int × V)}, x ∈ insD l i v → x = (i, v) ∨ x ∈ l
  | [], h => by simp [insD] at h; exact .inl h
  | y :: t, h => by
    unfold insD at h
    split at h
    · rcases List.mem_cons.1 h with rfl | h
      · exact .inr (by simp)
      · rcases insD_mem h with h | h
        · exact .inl h
        · exact .inr (by simp [h])
    · split at h
      · rcases List.mem_cons.1 h with rfl | h
        · exact .inl rfl
        · exact .inr (by simp [h])
      · rcases List.mem_cons.1 h with rfl | h
        · exact .inl rfl
        · exact .inr h
theorem SortD.ins : ∀ {l : List (Int × V)}, SortD l → SortD (insD l i v)
  | [], _ => by simp [insD, SortD]
  | y :: t, s => by
    have s' := s
    rw [SortD, List.pairwise_cons] at s
    unfold insD
    split
    · rename_i h
      refine List.pairwise_cons.2 ⟨fun z hz => ?_, SortD.ins s.2⟩
      rcases insD_mem hz with rfl | hz
      · exact h
      · exact s.1 z hz
    · split
      · rename_i h
        refine List.pairwise_cons.2 ⟨fun z hz => ?_, s.2⟩
        have := s.1 z hz
        simp only; omega
      · rename_i h1 h2
        refine List.pairwise_cons.2 ⟨fun z hz => ?_, s'⟩
        rcases List.mem_cons.1 hz with rfl | hz
        · simp only; omega
        · have := s.1 z hz
          simp only; omega
theorem atD_ins : ∀ (l : List (Int × V)), atD (insD l i v) j = if j = i then some v else atD l j
  | [] => by
    unfold insD atD
    by_cases h : j = i
    · subst h; simp
    · simp [h, Ne.symm h]
  | y :: t => by
    have ih := atD_ins t
    unfold insD
    by_cases h : j = i
    · subst h
      rw [if_pos rfl] at ih ⊢
      split
      · rename_i h1
        have hn : (y.1 == j) = false := by simp; omega
        simp only [atD, List.find?_cons, hn]
        exact ih
      · split
        · simp [atD]
        · simp [atD]
    · rw [if_neg h] at ih ⊢
      split
      · simp only [atD, List.find?_cons]
        cases hn : (y.1 == j)
        · exact ih
        · rfl
      · split
        · rename_i h2
          have hn : (y.1 == j) = false := by simp; omega
          have hn2 : (i == j) = false := by simp; omega
          simp only [atD, List.find?_cons, hn, hn2]
        · have hn2 : (i == j) = false := by simp; omega
          simp only [atD, List.find?_cons, hn2]
theorem SortD.get (s : SortD l) {p q : Nat} {x y : Int × V} (h : q < p) (hx : l[q]? = some x) (hy : l[p]? = some y) : x.1 < y.1 := by
  obtain ⟨h1, rfl⟩ := List.getElem?_eq_some_iff.1 hx
  obtain ⟨h2, rfl⟩ := List.getElem?_eq_some_iff.1 hy
  exact List.pairwise_iff_getElem.1 s q p h1 h2 h
theorem insD_len : (insD l i v).length ≤ l.length + 1 := by
  induction l with
  | nil => simp [insD]
  | cons y t ih =>
    unfold insD
    split
    · simpa using ih
    · split <;> simp
end
end Go.Proofs.Ytcncdfmnpmmikaa.H
namespace Go.Proofs.Ytcncdfmnpmmikaa.H
open Go
set_option linter.unusedVariables false
set_option maxRecDepth 100000
def entC_int (x : Int × Int) : List Value := [.int .i64 x.1, .int .i64 x.2]
theorem entC_int_len (x : Int × Int) : (entC_int x).length = 2 := rfl
def DRow_int (r : Option (Nat × AObj)) (v : Value) (l : List (Int × Int)) : Prop := Row r v TY.draft_entry_int 2 (l.flatMap entC_int)
def drO_int (v : Value) : AObj := .vec TY.draft_Draft_int (plains [v]) 1
structure DAt_int (L : List (Option (Nat × AObj))) (i k : Nat) (v : Value) (r : Option (Nat × AObj)) : Prop where
  p : L[i]? = some (some (k, drO_int v))
  q : L[i + 1]? = some r
section
variable {B : RO} {h0 h h' : Heap} {L : List (Option (Nat × AObj))} {r : Option (Nat × AObj)} {i k : Nat} {a : Option Addr} {m c : Nat} {v : Value} {l : List (Int × Int)}
theorem DRow_int.len (R : DRow_int r (.slice a m c) l) : m = l.length := (Row.rd (B := fun _ => none) R entC_int_len (by omega)).1
end
end Go.Proofs.Ytcncdfmnpmmikaa.H
namespace Go.Proofs.Ytcncdfmnpmmikaa.H
open Go
set_option linter.unusedVariables false
set_option maxRecDepth 100000
def entC_file_File (x : Int × (Bool × ByteArray)) : List Value := [.int .i64 x.1, .bool x.2.1, .string x.2.2]
theorem entC_file_File_len (x : Int × (Bool × ByteArray)) : (entC_file_File x).length = 3 := rfl
theorem entC_file_File_one (x : Int × (Bool × ByteArray)) : ∀ y ∈ entC_file_File x, isOne y = true := fun y hy => by simp [entC_file_File] at hy; rcases hy with rfl | rfl | rfl <;> rfl
theorem TK.slc_ent_file_File : slcB PG TY.s_draft_entry_file_File = some (TY.draft_entry_file_File, 3, 32) := by kernel_rfl
theorem TK.zero_ent_file_File : zeroB PG TY.draft_entry_file_File = some [.int .i64 0, .bool false, .string ByteArray.empty] := by kernel_rfl
theorem TK.sl_ent_file_File : slT PG TY.s_draft_entry_file_File = true := by kernel_rfl
theorem TK.int_ent_file_File : intB PG TY.int = some .i64 := by kernel_rfl
def DRow_file_File (r : Option (Nat × AObj)) (v : Value) (l : List (Int × (Bool × ByteArray))) : Prop := Row r v TY.draft_entry_file_File 3 (l.flatMap entC_file_File)
def drO_file_File (v : Value) : AObj := .vec TY.draft_Draft_file_File (plains [v]) 1
structure DAt_file_File (L : List (Option (Nat × AObj))) (i k : Nat) (v : Value) (r : Option (Nat × AObj)) : Prop where
  p : L[i]? = some (some (k, drO_file_File v))
  q : L[i + 1]? = some r
section
variable {B : RO} {h0 h h' : Heap} {L : List (Option (Nat × AObj))} {r : Option (Nat × AObj)} {i k : Nat} {a : Option Addr} {m c : Nat} {v : Value} {l : List (Int × (Bool × ByteArray))}
theorem by_file_File_wp {x : Int × (Bool × ByteArray)} {n : Int} {Q : Int → Heap → Prop} (hQ : Q (if x.1 < n then -1 else if n < x.1 then 1 else 0) h) : C_draft_by_file_File B x.1 x.2.1 x.2.2 n h Q := by
  refine C_draft_by_file_File.of ?_
  unfold S_draft_by_file_File
  intro k5 a5 b5 h6 e6
  have E := (Keep.nil B h).made a5 b5 e6
  refine ⟨_, E.cell 0 rfl rfl, fun h1 => Fin.ent E.back (Fin.of ?_), fun h1 => ⟨_, E.cell 0 rfl rfl, fun h2 => Fin.ent E.back (Fin.of ?_), fun h2 => Fin.ent E.back (Fin.of ?_)⟩⟩
  · rw [if_pos h1] at hQ; exact hQ
  · rw [if_neg h1, if_pos h2] at hQ; exact hQ
  · rw [if_neg h1, if_neg (fun h => h2 h)] at hQ; exact hQ
theorem bsearch_file_File_wp {n : Int} {Q : Int → Bool → Heap → Prop} (hr : Reads B h a 3 entC_file_File l) (s : SortD l) (hl : l.length ≤ 1000000) (hQ : ∀ p, PosD l n p → Q (p : Nat) (foundD l p n) h) : C_slices_BinarySearchFunc_s_draft_entry_file_File_draft_entry_file_File_int B a l.length c n (Value.func (.func FN.draft_by_file_File) #[] #[]) h Q := by
  refine C_slices_BinarySearchFunc_s_draft_entry_file_File_draft_entry_file_File_int.of ?_
  unfold S_slices_BinarySearchFunc_s_draft_entry_file_File_draft_entry_file_File_int
  refine ⟨fun i j m h' => ∃ lo hi : Nat, i = lo ∧ j = hi ∧ m = hi - lo ∧ lo ≤ hi ∧ hi ≤ l.length ∧ (∀ (q : Nat) (x : Int × (Bool × ByteArray)), q < lo → l[q]? = some x → x.1 < n) ∧ (∀ (q : Nat) (x : Int × (Bool × ByteArray)), hi ≤ q → l[q]? = some x → n ≤ x.1) ∧ h = h', l.length, Fin.of ⟨0, l.length, rfl, rfl, rfl, by omega, Nat.le_refl _, fun q x hq => by omega, fun q x hq hx => by have := (List.getElem?_eq_some_iff.1 hx).1; omega, rfl⟩, ?_⟩
  rintro _ _ _ _ ⟨lo, hi, rfl, rfl, rfl, hlh, hhl, hlo, hhi, rfl⟩
  refine ⟨fun hlt => ⟨by decide, ?_⟩, fun hge => Fin.of ?_⟩
  · have hmid : IntKind.wrap .i64 (Int.fdiv (IntKind.wrap .u64 (IntKind.wrap .i64 (((lo : Nat) : Int) + ((hi : Nat) : Int)))) (2 ^ (min (Int.toNat (1)) (IntKind.bits .u64)))) = (((lo + hi) / 2 : Nat) : Int) := by
      have e1 : IntKind.wrap .i64 (((lo : Nat) : Int) + ((hi : Nat) : Int)) = ((lo + hi : Nat) : Int) := by rw [w64 (by omega) (by omega)]; omega
      have e2 : IntKind.wrap .u64 ((lo + hi : Nat) : Int) = ((lo + hi : Nat) : Int) := by rw [wu64]; omega
      rw [e1, e2, two1, Int.fdiv_eq_ediv_of_nonneg _ (by decide), w64 (by omega) (by omega)]; omega
    rw [hmid]
    have hml : (lo + hi) / 2 < l.length := by omega
    have hx := List.getElem?_eq_getElem hml
    have hb : lo ≤ (lo + hi) / 2 ∧ (lo + hi) / 2 < hi := by omega
    generalize (lo + hi) / 2 = mid at hml hx hb
    generalize l[mid] = x at hx
    obtain ⟨A, e1, _, e4⟩ := hr mid x hx
    have hw : IntKind.wrap .i64 (((mid : Nat) : Int) + 1) = ((mid + 1 : Nat) : Int) := by rw [w64 (by omega) (by omega)]; omega
    rw [hw]
    refine ⟨A, e1, by omega, by omega, x.1, x.2.1, x.2.2, e4, ?_⟩
    refine CallV.func TG.draft_by_file_File (by_file_File_wp (x := x) ⟨fun h1 => Fin.of ⟨hi - (mid + 1), by omega, mid + 1, hi, rfl, rfl, rfl, by omega, hhl, fun q y hq hy => ?_, hhi, rfl⟩, fun h1 => Fin.of ⟨mid - lo, by omega, lo, mid, rfl, rfl, rfl, by omega, by omega, hlo, fun q y hq hy => ?_, rfl⟩⟩)
    · have hx1 : x.1 < n := by
        by_cases h2 : x.1 < n
        · exact h2
        · rw [if_neg h2] at h1; split at h1 <;> omega
      by_cases h : q = mid
      · subst h; rw [hx] at hy; cases hy; exact hx1
      · have := s.get (show q < mid by omega) hy hx; omega
    · have hx1 : n ≤ x.1 := by
        by_cases h2 : x.1 < n
        · rw [if_pos h2] at h1; omega
        · omega
      by_cases h : q = mid
      · subst h; rw [hx] at hy; cases hy; exact hx1
      · have := s.get (show mid < q by omega) hx hy; omega
  · have : lo = hi := by omega
    subst this
    have K : PosD l n lo := ⟨hhl, hlo, hhi⟩
    have hq := hQ lo K
    unfold S_slices_BinarySearchFunc_s_draft_entry_file_File_draft_entry_file_File_int_J1
    refine ⟨fun hlt2 => ?_, fun hge2 => Fin.of ?_⟩
    · have hml : lo < l.length := by omega
      have hx := List.getElem?_eq_getElem hml
      generalize l[lo] = x at hx
      obtain ⟨A, e1, _, e4⟩ := hr lo x hx
      have hf : foundD l lo n = (x.1 == n) := by rw [foundD, hx]
      rw [hf] at hq
      refine ⟨A, e1, by omega, by omega, x.1, x.2.1, x.2.2, e4, ?_⟩
      refine CallV.func TG.draft_by_file_File (by_file_File_wp (x := x) (Fin.of ?_))
      have : (((if x.1 < n then -1 else if n < x.1 then 1 else 0 : Int)) == (0 : Int)) = (x.1 == n) := by
        rw [Bool.eq_iff_iff, beq_iff_eq, beq_iff_eq]
        split
        · omega
        · split <;> omega
      rw [this]; exact hq
    · have hf : foundD l lo n = false := by rw [foundD, List.getElem?_eq_none (by omega)]
      rw [hf] at hq; exact hq
theorem DRow_file_File.len (R : DRow_file_File r (.slice a m c) l) : m = l.length := (Row.rd (B := fun _ => none) R entC_file_File_len (by omega)).1
theorem find_file_File_wp {n : Int} {Q : Int → Bool → Heap → Prop} (E : Keep B h0 L h) (A : DAt_file_File L i k v r) (R : DRow_file_File r v l) (s : SortD l) (hl : l.length ≤ 1000000) (hQ : ∀ p, PosD l n p → Q (p : Nat) (foundD l p n) h) : C_draft_Draft_file_File_find B (some ⟨k, 0, none⟩) n h Q := by
  refine C_draft_Draft_file_File_find.of ?_
  unfold S_draft_Draft_file_File_find
  obtain ⟨a, m, c, rfl⟩ := Row.slice R
  obtain ⟨rfl, hrd⟩ := Row.rd (B := B) R entC_file_File_len (by omega)
  exact ⟨_, rfl, .inl ⟨a, _, c, E.cell i A.p rfl, bsearch_file_File_wp (hrd h fun k o e => E.at (i + 1) (by rw [A.q, e])) s hl fun p K => Fin.of (hQ p K)⟩⟩
theorem len_file_File_wp {Q : Int → Heap → Prop} (E : Keep B h0 L h) (A : DAt_file_File L i k v r) (R : DRow_file_File r v l) (hQ : Q (l.length : Nat) h) : C_draft_Draft_file_File_Len B (some ⟨k, 0, none⟩) h Q := by
  refine C_draft_Draft_file_File_Len.of ?_
  unfold S_draft_Draft_file_File_Len
  obtain ⟨a, m, c, rfl⟩ := Row.slice R
  have hm := DRow_file_File.len R
  subst hm
  exact ⟨fun e => (by cases e), fun _ => ⟨_, rfl, .inl ⟨a, _, c, E.cell i A.p rfl, Fin.of hQ⟩⟩⟩
end
end Go.Proofs.Ytcncdfmnpmmikaa.H
namespace Go.Proofs.Ytcncdfmnpmmikaa.H
open Go
set_option linter.unusedVariables false
set_option maxRecDepth 100000
section
variable {P : Program} {B : RO} {h0 h h' : Heap} {L : List (Option (Nat × AObj))} {r : Option (Nat × AObj)} {e : TypeId} {sz : Nat} {xs : List Value} {a : Option Addr} {m c : Nat}
theorem Keep.picks (E : Keep B h0 L h) (is : List Nat) (hn : is.Nodup) : Keep B h0 (is.map fun i => L.getD i none) h := by
  refine E.remap (fun j => is.getD j 0) (fun j y hj => ?_) (fun i j hi hj e => ?_)
  · rw [List.getElem?_map] at hj
    obtain ⟨i, hi, e⟩ := Option.map_eq_some_iff.1 hj
    have : is.getD j 0 = i := by rw [List.getD_eq_getElem?_getD, hi]; rfl
    rw [this]
    rw [List.getD_eq_getElem?_getD] at e
    cases hL : L[i]? with
    | none => rw [hL] at e; cases e
    | some z => rw [hL] at e; exact congrArg some e
  · rw [List.length_map] at hi hj
    rw [List.getD_eq_getElem?_getD, List.getD_eq_getElem?_getD, List.getElem?_eq_getElem hi, List.getElem?_eq_getElem hj] at e
    have e : is[i] = is[j] := e
    have hp := List.pairwise_iff_getElem.1 hn
    rcases Nat.lt_trichotomy i j with h | h | h
    · exact absurd e (hp i j hi hj h)
    · exact h
    · exact absurd e.symm (hp j i hj hi h)
theorem Keep.dropMid {M N : List (Option (Nat × AObj))} (E : Keep B h0 (L ++ (M ++ N)) h) : Keep B h0 (L ++ N) h := by
  refine E.remap (fun i => if i < L.length then i else i + M.length) (fun i z hi => ?_) (fun i j hi hj e => ?_)
  · by_cases h1 : i < L.length
    · rw [List.getElem?_append_left h1] at hi
      rw [if_pos h1, List.getElem?_append_left h1]; exact hi
    · rw [List.getElem?_append_right (by omega)] at hi
      rw [if_neg h1, List.getElem?_append_right (by omega), List.getElem?_append_right (by omega)]
      rw [show i + M.length - L.length - M.length = i - L.length by omega]; exact hi
  · have e : (if i < L.length then i else i + M.length) = (if j < L.length then j else j + M.length) := e
    split at e <;> split at e <;> omega
end
end Go.Proofs.Ytcncdfmnpmmikaa.H
namespace Go.Proofs.Ytcncdfmnpmmikaa.H
open Go Go.RowKit
set_option linter.unusedVariables false
set_option maxRecDepth 100000
abbrev DFL := List (Int × (Bool × ByteArray))
section
variable {B : RO} {h0 h h' : Heap} {L : List (Option (Nat × AObj))} {r : Option (Nat × AObj)} {i k k3 : Nat} {a : Option Addr} {m c : Nat} {v : Value} {l : DFL} {n : Int}
theorem ins_file_File_eq {a5 : Option Addr} {n n6 c7 : Nat} {i : Int} {Q : Option Addr → Nat → Nat → Heap → Prop} : S_slices_Insert_s_draft_entry_file_File_draft_entry_file_File B a n c i a5 n6 c7 h Q = InsP PG TY.s_draft_entry_file_File 3 TY.bool TY.int (fun B => C_slices_rotateRight_draft_entry_file_File B) B a n c i a5 n6 c7 h Q := by
  unfold S_slices_Insert_s_draft_entry_file_File_draft_entry_file_File InsP
  congr
theorem put_file_File_wp {n : Int} {x : Bool × ByteArray} {Q : Bool → Heap → Prop} (E : Keep B h0 L h) (A : DAt_file_File L i k v r) (R : DRow_file_File r v l) (s : SortD l) (hl : l.length ≤ 100000) (hQ : ∀ v' r' h', DRow_file_File r' v' (insD l n x) → Keep B h0 ((L.set i (some (k, drO_file_File v'))).set (i + 1) r') h' → Q true h') : C_draft_Draft_file_File_Put B (some ⟨k, 0, none⟩) n x.1 x.2 h Q := by
  refine C_draft_Draft_file_File_Put.of ?_
  unfold S_draft_Draft_file_File_Put
  have hil : i < L.length := (List.getElem?_eq_some_iff.1 A.p).1
  have hil1 : i + 1 < L.length := (List.getElem?_eq_some_iff.1 A.q).1
  intro k6 a6 b6 h7 e7
  have E0 : Keep B h0 (L ++ [some (k6, .vec TY.file_File (plains [.bool x.1, .string x.2]) 2)]) h7 := E.made a6 b6 e7
  have A0 : DAt_file_File (L ++ [some (k6, .vec TY.file_File (plains [.bool x.1, .string x.2]) 2)]) i k v r := ⟨up_app _ A.p, up_app _ A.q⟩
  have c6 : ∀ {h1 : Heap}, h1 k6 = some (.vec TY.file_File (plains [.bool x.1, .string x.2]) 2) → CellsAt B h1 ⟨k6, 0, none⟩ 0 [.bool x.1, .string x.2] := fun g => ⟨cellH_vec g rfl, cellH_vec g rfl, trivial⟩
  refine ⟨fun e => (by cases e), fun _ => find_file_File_wp E0 A0 R s (by omega) fun p K => ⟨fun hf => ?_, fun hf => ?_⟩⟩
  · obtain ⟨y, hy, rfl⟩ := foundD_some hf
    have hpl := (List.getElem?_eq_some_iff.1 hy).1
    have hi := insD_old (v := x) K hf
    obtain ⟨a, m, c, rfl⟩ := Row.slice R
    have hm := DRow_file_File.len R
    subst hm
    have hfl := flatMap_length entC_file_File_len l
    rcases R with ⟨_, e1, e2⟩ | ⟨kr, m', c', nn, js, e0, e1, e3, e4, e5⟩
    · rw [e2] at hfl; simp at hfl; omega
    · cases e1
      have hq := A0.q
      rw [e0] at hq
      have hsp := flatMap_splitR (cells := entC_file_File) l p hpl
      have hly : l[p] = y := by rw [List.getElem?_eq_getElem hpl] at hy; exact Option.some.inj hy
      have htl : ((l.take p).flatMap entC_file_File).length = p * 3 := by rw [flatMap_length entC_file_File_len, List.length_take]; omega
      have hle : (l.length : Nat) * 3 ≤ nn := Nat.le_trans (Nat.mul_le_mul_right _ e4) e5
      obtain ⟨h32, st, E2⟩ := E0.storesV (i + 1) (k := kr) (nn := nn) (t := TY.draft_entry_file_File) (fs := (l.take p).flatMap entC_file_File ++ [.int .i64 y.1]) (gs := [.bool y.2.1, .string y.2.2] ++ ((l.drop (p + 1)).flatMap entC_file_File ++ js)) (by
        rw [hq, hsp, hly]; simp [entC_file_File, List.append_assoc]) [.bool x.1, .string x.2] (by simp [isOne]) (p * 3 + 1) (by rw [List.length_append, htl]; rfl) (by simp; omega)
      refine ⟨_, rfl, _, _, _, E0.cell i A0.p rfl, _, _, c6 E0.last, _, rfl, by omega, by omega, h32, ?_, ?_⟩
      · rw [addr_more, addr_more, Nat.zero_add, Int.toNat_natCast]; exact st
      · have hs : L.set i (some (k, drO_file_File (.slice (some ⟨kr, 0, none⟩) l.length c))) = L := by
          obtain ⟨hl, e⟩ := List.getElem?_eq_some_iff.1 A.p
          rw [← e]; exact List.set_getElem_self hl
        rw [List.set_append_left _ _ hil1] at E2
        refine Fin.of (hQ (.slice (some ⟨kr, 0, none⟩) l.length c) _ h32 (.inr ⟨kr, l.length, c, nn, js, rfl, rfl, ?_, e4, e5⟩) ?_)
        · rw [hi, flatMap_length entC_file_File_len, List.length_set]
        · rw [hs, hi, flatMap_setR _ _ _ hpl]
          refine cast ?_ E2.pop
          congr 6
          simp [entC_file_File, List.append_assoc]
  · have hi := insD_new (v := x) K hf
    obtain ⟨a, m, c, rfl⟩ := Row.slice R
    have hm := DRow_file_File.len R
    subst hm
    have hfl := flatMap_length entC_file_File_len l
    refine ⟨_, rfl, _, _, _, E0.cell i A0.p rfl, _, _, c6 E0.last, fun k15 a15 b15 h16 e16 => ?_⟩
    have E1 := E0.made a15 b15 e16
    have A1 : DAt_file_File (L ++ [some (k6, .vec TY.file_File (plains [.bool x.1, .string x.2]) 2)] ++ [some (k15, .vec TY.draft_entry_file_File (plains (entC_file_File (n, x))) 3)]) i k (.slice a l.length c) r := ⟨up_app _ A0.p, up_app _ A0.q⟩
    refine ⟨E1.cell i A1.p rfl, c6 (E1.at L.length (up_app _ (by rw [List.getElem?_append_right (Nat.le_refl _), Nat.sub_self]; rfl))), ?_⟩
    refine C_slices_Insert_s_draft_entry_file_File_draft_entry_file_File.of ?_
    rw [ins_file_File_eq]
    refine insP_wp TK.slc_ent_file_File TK.zero_ent_file_File rfl (by omega) (by omega) TK.sl_ent_file_File TK.int_ent_file_File (by decide) E1 (i + 1) A1.q R ?_ (L.length + 1) (kx := k15) (ys := entC_file_File (n, x)) (by rw [List.getElem?_append_right (by simp), List.length_append]; simp; rfl) rfl (entC_file_File_one _) (by omega) p K.le (by rw [hfl]; omega) ?_
    · intro y hy
      obtain ⟨z, _, hz⟩ := List.mem_flatMap.1 hy
      exact entC_file_File_one z y hz
    · intro a' c' r' h17 R' E2
      rw [List.append_assoc, List.set_append_left _ _ hil1] at E2
      have hp2 : (L.set (i + 1) r' ++ ([some (k6, .vec TY.file_File (plains [.bool x.1, .string x.2]) 2)] ++ [some (k15, .vec TY.draft_entry_file_File (plains (entC_file_File (n, x))) 3)]))[i]? = some (some (k, drO_file_File (.slice a l.length c))) := up_app _ (by rw [List.getElem?_set_ne (by omega)]; exact A.p)
      have g6 := E2.at L.length (by rw [List.getElem?_append_right (by simp), List.length_set, Nat.sub_self]; rfl)
      refine ⟨E2.cell i hp2 rfl, c6 g6, ?_⟩
      have E3 := E2.popL
      have hp3 : (L.set (i + 1) r')[i]? = some (some (k, drO_file_File (.slice a l.length c))) := by rw [List.getElem?_set_ne (by omega)]; exact A.p
      obtain ⟨es, E4⟩ := E3.store i 0 (.slice a' (l.length + 1) c') hp3 rfl
      refine ⟨_, rfl, _, es, Fin.of (hQ (.slice a' (l.length + 1) c') r' _ ?_ ?_)⟩
      · rw [hi]
        unfold DRow_file_File
        have e1 : (l.flatMap entC_file_File).take (p * 3) = (l.take p).flatMap entC_file_File := take_flatMap entC_file_File_len l p
        have e2 : (l.flatMap entC_file_File).drop (p * 3) = (l.drop p).flatMap entC_file_File := by
          have h2 : l.flatMap entC_file_File = (l.take p).flatMap entC_file_File ++ (l.drop p).flatMap entC_file_File := by rw [← List.flatMap_append, List.take_append_drop]
          rw [h2, List.drop_left']
          rw [flatMap_length entC_file_File_len, List.length_take, Nat.min_eq_left K.le]
        rw [e1, e2] at R'
        rw [List.flatMap_append, List.flatMap_cons, ← List.append_assoc]
        exact R'
      · rw [List.set_comm _ _ (by omega)] at E4
        exact E4
def fdallF (k3 : Nat) : Value := Value.func (.func FN.draft_Draft_file_File_All_1) #[] #[(Value.pointer (some ⟨k3, 0, none⟩))]
def encDF (x : Int × (Bool × ByteArray)) : List Value := [.int .i64 x.1, .agg #[.bool x.2.1, .string x.2.2]]
def fdG (k3 k : Nat) (v : Value) (r : Option (Nat × AObj)) (h : Heap) : Prop :=
  h k3 = some (.vec TY.p_draft_Draft_file_File [.plain (.pointer (some ⟨k, 0, none⟩))] 1) ∧ h k = some (drO_file_File v) ∧ ∀ k o, r = some (k, o) → h k = some o
theorem fdG_ins {k3 kk : Nat} {v : Value} {r : Option (Nat × AObj)} : Ins (fdG k3 kk v r) := by
  rintro h k o hk ⟨g1, g2, g3⟩
  exact ⟨Heap.get_new hk g1, Heap.get_new hk g2, fun k' o' e => Heap.get_new hk (g3 k' o' e)⟩
theorem fdall_wp {p : Option Addr} {Q : Value → Heap → Prop} (hQ : ∀ k, h k = none → B k = none → Q (fdallF k) (h.set k (.vec TY.p_draft_Draft_file_File [.plain (.pointer p)] 1))) : C_draft_Draft_file_File_All B p h Q := by
  refine C_draft_Draft_file_File_All.of ?_
  unfold S_draft_Draft_file_File_All
  intro k a1 b1 h4 e4
  subst e4
  exact Fin.of (hQ k a1 b1)
theorem fdall_iter (R : DRow_file_File r v l) (hlen : l.length ≤ 100000) : Iter PG B (fdallF k3) (l.map encDF) (fdG k3 k v r) := by
  refine ⟨_, _, _, rfl, TG.draft_Draft_file_File_All_1, fun y J X h hy hG h0 hcall => ?_⟩
  have main : C_draft_Draft_file_File_All_1 B y ⟨k3, 0, none⟩ h (fun h' => Fin B h' (fun h'' => J (l.map encDF).length h'' ∨ X h'')) := by
    refine C_draft_Draft_file_File_All_1.of ?_
    unfold S_draft_Draft_file_File_All_1
    obtain ⟨a, m, c, rfl⟩ := Row.slice R
    obtain ⟨rfl, hrd⟩ := Row.rd (B := B) R entC_file_File_len (by omega)
    obtain ⟨g1, g2, g3⟩ := hG 0 h h0
    refine ⟨_, cellH_vec g1 rfl, fun e => (by cases e), fun _ => ⟨_, cellH_vec g1 rfl, _, rfl, .inl ⟨a, _, c, cellH_vec g2 rfl, ?_⟩⟩⟩
    refine ⟨fun i m' h' => ∃ j : Nat, j ≤ l.length ∧ i = j ∧ m' = l.length - j ∧ J j h', l.length, Fin.of ⟨0, by omega, rfl, by omega, h0⟩, ?_⟩
    rintro _ _ h13 ⟨j, hj, rfl, rfl, hJ⟩
    obtain ⟨g1, g2, g3⟩ := hG j h13 hJ
    refine ⟨fun hlt => ?_, fun hge => Fin.of ?_⟩
    · have hj' : j < l.length := by omega
      have hx := List.getElem?_eq_getElem hj'
      generalize l[j] = x at hx
      obtain ⟨A, e, _, q⟩ := hrd h13 g3 j _ hx
      refine ⟨A, e, by omega, hlt, x.1, x.2.1, x.2.2, q, fun k24 a24 b24 h25 e25 => ?_⟩
      obtain ⟨g25, l25, -⟩ := Heap.made a24 e25
      refine ⟨_, stores_whole g25 rfl (by simp) (by simp [isOne]) (by simp), ?_⟩
      generalize e26 : h25.set k24 _ = h26
      obtain ⟨g26, -, -⟩ := Heap.put e26
      refine ⟨_, cellH_vec g26 rfl, _, _, ⟨cellH_vec g26 rfl, cellH_vec g26 rfl, trivial⟩, ?_⟩
      have w : Wk B h13 h26 := by
        rw [← e26, e25, Heap.set_set]; exact Wk.new a24 b24
      have hc := hcall j h13 (encDF x) (by rw [List.getElem?_map, hx]; rfl) hJ
      refine CallV.mono ?_ (hc.weaken w)
      rintro v h27 ⟨h28, t1, h29, t2, hor⟩
      rcases hor with ⟨rfl, hJ'⟩ | ⟨rfl, hX⟩
      · refine ⟨true, rfl, fun _ => ⟨h29, t1.trans t2, l.length - (j + 1), by omega, j + 1, by omega, ?_, rfl, hJ'⟩, fun e => by cases e⟩
        rw [w64 (by omega) (by omega)]; omega
      · exact ⟨false, rfl, fun e => (by cases e), fun _ => ⟨h29, t1.trans t2, Fin.of (.inr hX)⟩⟩
    · have : j = l.length := by omega
      subst this
      refine Fin.of (.inl ?_)
      rw [List.length_map]
      exact hJ
  exact Spec.mono main fun v h' q => q.2
end
end Go.Proofs.Ytcncdfmnpmmikaa.H

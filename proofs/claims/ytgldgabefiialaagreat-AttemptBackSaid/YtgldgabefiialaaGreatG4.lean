/- What the law's proof stands on, part 4. No condition. -/
import Derived.Test.YtgldgabefiialaaGreatG3
namespace Go.Proofs.YtgldgabefiialaaGreat.H
open Go
set_option linter.unusedVariables false
set_option maxRecDepth 100000
set_option maxHeartbeats 4000000
theorem C_countermandlaw20_AttemptBack.of {B : RO} {a1 : Option Addr} {n2 : Nat} {c3 : Nat} {a4 : Option Addr} {n5 : Nat} {c6 : Nat} {i7 : Int} {i8 : Int} {i9 : Int} {i10 : Int} {i11 : Int} {s12 : ByteArray} {b13 : Bool} {h : Heap} {Q : Bool → Heap → Prop} (s : S_countermandlaw20_AttemptBack B a1 n2 c3 a4 n5 c6 i7 i8 i9 i10 i11 s12 b13 h Q) : C_countermandlaw20_AttemptBack B a1 n2 c3 a4 n5 c6 i7 i8 i9 i10 i11 s12 b13 h Q := by
 refine zspec Tryz.func8 [ResultVar.tmp 12] rfl rfl rfl rfl rfl ?_
 refine au 2 rfl ?_
 refine zbn s rfl rfl rfl fun k15 h16 s => ?_
 refine au 5 rfl ?_
 refine zcall s rfl rfl TF.goes_9 ?_
 rintro _ h17 ⟨b18, rfl, s⟩
 cases b18
 ·replace s := s.2 rfl
  refine au 7 rfl ?_
  exact zr (s.imp fun _ q => ⟨_, rfl, q⟩)
 ·replace s := s.1 rfl
  refine au 4 rfl ?_
  refine Run.seqJ (fun e h20 => Agree [(0, (.slice a1 n2 c3)), (1, (.slice a4 n5 c6)), (3, (.int .i64 (i11))), (4, (.string s12)), (5, (.bool b13)), (8, (.pointer (some ⟨k15, 0, none⟩)))] e ∧ S_countermandlaw20_AttemptBack_J1 B a1 n2 c3 a4 n5 c6 i11 s12 b13 k15 h20 Q) ?_ fun j19 => ?_
  ·rintro e h20 ⟨hag, s⟩
   refine Run.env hag ?_; clear hag
   refine au 2 rfl ?_
   refine zcall s rfl rfl TF.goes_24 ?_
   rintro _ h21 ⟨p22, rfl, s⟩
   refine zcall s rfl rfl TF.goes_24 ?_
   rintro _ h23 ⟨p24, rfl, s⟩
   refine au 4 rfl ?_
   obtain ⟨i26, i27, i28, i29, hl, s⟩ := s
   have f30 := hl
   obtain ⟨i32, i33, i34, i35, hl, s⟩ := s
   have f36 := hl
   refine Run.drawM (fun h' => CellsAt B h' ⟨k15, 0, none⟩ 0 [(.int .i64 (i26)), (.int .i64 (i27)), (.int .i64 (i28)), (.int .i64 (i29))] ∧ CellsAt B h' ⟨k15, 0, none⟩ 0 [(.int .i64 (i32)), (.int .i64 (i33)), (.int .i64 (i34)), (.int .i64 (i35))] ∧ True) [] ⟨[0, 0, 3, 0, 0, 28, 39, 127], [255, 255, 252, 255, 255, 231, 251, 223], [0, 0, 0, 0, 0, 0, 0, 0], 0⟩ (.q 0 (.q 1 (.q 3 (.q 4 (.x 2 (.x 5 (.q 6 (.q 7 .nil)) .no) .no))))) TF.mixed (by kernel_rfl) ⟨f30, f36, trivial⟩ ?_
   refine auT 1 rfl ?_
   refine zq rfl (fun _ hC => sem_loadN ⟨k15, 0, none⟩ [(.int .i64 (i26)), (.int .i64 (i27)), (.int .i64 (i28)), (.int .i64 (i29))] rfl TF.agg_26 TF.sz_26 hC.1 ⟨rfl, rfl⟩) ?_
   refine auT 1 rfl ?_
   refine zq rfl (fun _ hC => sem_loadN ⟨k15, 0, none⟩ [(.int .i64 (i32)), (.int .i64 (i33)), (.int .i64 (i34)), (.int .i64 (i35))] rfl TF.agg_26 TF.sz_26 hC.2.1 ⟨rfl, rfl⟩) ?_
   refine ⟨zo rfl (sem_callL [(.pointer p22), (.agg #[(.int .i64 (i26)), (.int .i64 (i27)), (.int .i64 (i28)), (.int .i64 (i29))])] (TF.goes_25) rfl rfl (Spec.mono s fun v h37 hv => ?_)), trivial⟩
   obtain ⟨p38, rfl, s⟩ := hv
   obtain ⟨g39, g40, s⟩ := s
   refine ⟨fun _ => ⟨g39, g40, trivial⟩, ?_⟩
   refine ⟨zo rfl (sem_callL [(.pointer p24), (.agg #[(.int .i64 (i32)), (.int .i64 (i33)), (.int .i64 (i34)), (.int .i64 (i35))])] (TF.goes_25) rfl rfl (Spec.mono s fun v h41 hv => ?_)), trivial⟩
   obtain ⟨p42, rfl, s⟩ := hv
   obtain ⟨g43, g44, s⟩ := s
   refine ⟨fun _ => ⟨g43, g44, trivial⟩, ?_⟩
   refine auT 2 rfl ?_
   refine au 3 rfl ?_
   refine znil s rfl rfl fun A45 s => ?_
   refine au 1 rfl ?_
   refine zl s rfl rfl TF.agg_41 fun p47 s => ?_
   refine au 1 rfl ?_
   refine zcall s rfl rfl TF.goes_18 ?_
   rintro _ h48 ⟨i49, rfl, s⟩
   refine au 4 rfl ?_
   refine znil s rfl rfl fun A50 s => ?_
   refine au 1 rfl ?_
   refine zl s rfl rfl TF.agg_41 fun p52 s => ?_
   refine au 1 rfl ?_
   refine zcall s rfl rfl TF.goes_18 ?_
   rintro _ h53 ⟨i54, rfl, s⟩
   refine au 1 rfl ?_
   refine Run.seqJ (fun e h56 => Agree [(1, (.slice a4 n5 c6)), (3, (.int .i64 (i11))), (5, (.bool b13)), (8, (.pointer (some ⟨k15, 0, none⟩))), (13, (.pointer p22)), (14, (.pointer p24)), (15, (.pointer p38)), (16, (.pointer p42))] e ∧ S_countermandlaw20_AttemptBack_J2 B a4 n5 c6 i11 b13 k15 p22 p24 p38 p42 h56 Q) ?_ fun j55 => ?_
   ·rintro e h56 ⟨hag, s⟩
    refine Run.env hag ?_; clear hag
    refine au 3 rfl ?_
    refine zcall s rfl rfl TF.goes_33 ?_
    rintro _ h57 ⟨p58, rfl, s⟩
    refine zcall s rfl rfl TF.goes_36 ?_
    rintro _ h59 ⟨b60, rfl, s⟩
    refine au 5 rfl ?_
    refine zcall s rfl rfl TF.goes_26 ?_
    rintro _ h61 ⟨rfl, s⟩
    refine au 1 rfl ?_
    refine Run.seqJ (fun e h63 => Agree [(3, (.int .i64 (i11))), (5, (.bool b13)), (8, (.pointer (some ⟨k15, 0, none⟩))), (13, (.pointer p22)), (14, (.pointer p24)), (15, (.pointer p38)), (16, (.pointer p42))] e ∧ S_countermandlaw20_AttemptBack_J3 B i11 b13 k15 p22 p24 p38 p42 h63 Q) ?_ fun j62 => ?_
    ·rintro e h63 ⟨hag, s⟩
     refine Run.env hag ?_; clear hag
     refine au 3 rfl ?_
     refine zcall s rfl rfl TF.goes_33 ?_
     rintro _ h64 ⟨p65, rfl, s⟩
     refine zcall s rfl rfl TF.goes_36 ?_
     rintro _ h66 ⟨b67, rfl, s⟩
     refine au 4 rfl ?_
     refine zcall s rfl rfl TF.goes_33 ?_
     rintro _ h68 ⟨p69, rfl, s⟩
     refine zcall s rfl rfl TF.goes_37 ?_
     rintro _ h70 ⟨b71, rfl, s⟩
     refine au 4 rfl ?_
     refine zcall s rfl rfl TF.goes_33 ?_
     rintro _ h72 ⟨p73, rfl, s⟩
     refine zcall s rfl rfl TF.goes_37 ?_
     rintro _ h74 ⟨b75, rfl, s⟩
     refine au 5 rfl ?_
     refine zg rfl (sem_buildAL [(0, (.int .i64 (i11))), (1, (.int .i64 (1))), (2, (.int .i64 (2))), (3, (.int .i64 (3)))] [(.int .i64 (i11)), (.int .i64 (1)), (.int .i64 (2)), (.int .i64 (3))] TF.zero_26 TF.arr_26 rfl rfl ?_)
     refine zcall s rfl rfl TF.goes_30 ?_
     rintro _ h76 ⟨rfl, s⟩
     refine au 4 rfl ?_
     cases b13
     ·replace s := s.2 rfl
      refine au 1 rfl ?_
      refine au 6 rfl ?_
      refine zcall s rfl rfl TF.goes_27 ?_
      rintro _ h77 ⟨i78, a79, n80, c81, b82, rfl, s⟩
      refine au 3 rfl ?_
      cases b82
      ·replace s := s.2 rfl
       refine au 1 rfl ?_
       refine au 7 rfl ?_
       refine zcall s rfl rfl TF.goes_27 ?_
       rintro _ h83 ⟨i84, a85, n86, c87, b88, rfl, s⟩
       refine au 3 rfl ?_
       cases b88
       ·replace s := s.2 rfl
        refine au 1 rfl ?_
        refine au 6 rfl ?_
        by_cases hb91 : (i78 : Int) = i11
        ·replace s := s.1 hb91
         refine Run.drawM (fun h' => True) [] ⟨[0, 0, 3, 4, 8, 24, 40, 72, 128, 384, 640, 1024, 3072, 5120, 9216, 17408, 32768, 98304, 163840, 294912, 557056, 1081344, 2129920, 4194304, 12582912, 20971520, 37748736, 71303168, 138412032, 272629760, 536870912, 1610612736, 536870912, 6979321856, 9126805504, 19327352832, 34359738368, 103079215104, 171798691840, 309237645312, 584115552256, 1133871366144], [4398046511103, 4398046511103, 4398046511100, 4398046511099, 4398046511095, 4398046511079, 4398046511063, 4398046511039, 4398046510975, 4398046510719, 4398046510591, 4398046510079, 4398046508031, 4398046505983, 4398046501887, 4398046494719, 4398046478335, 4398046412799, 4398046347263, 4398046216191, 4398045954047, 4398045429759, 4398044413951, 4398042316799, 4398033928191, 4398025539583, 4398008762367, 4397975207935, 4397908099071, 4397778075647, 4397509640191, 4396435898367, 4397509640191, 4391067189247, 4388919705599, 4380866641919, 4363686772735, 4294967295999, 4226247819263, 4088808865791, 3813930958847, 3264175144959], [0, 0, 0, 0, 0, 0, 0, 0, 0, 0, 0, 0, 0, 0, 0, 0, 0, 0, 0, 0, 0, 0, 0, 0, 0, 0, 0, 0, 0, 0, 0, 0, 0, 0, 0, 0, 0, 0, 0, 0, 0, 0], 0⟩ (.q 0 (.q 1 (.q 2 (.q 3 (.q 4 (.q 5 (.q 6 (.q 7 (.q 8 (.q 9 (.q 10 (.q 11 (.q 12 (.q 13 (.q 14 (.q 15 (.q 16 (.q 17 (.q 18 (.q 19 (.q 20 (.q 21 (.q 22 (.q 23 (.q 24 (.q 25 (.q 26 (.q 27 (.q 28 (.q 29 (.q 30 (.q 32 (.x 31 (.q 33 (.q 34 (.q 35 (.q 36 (.x 37 (.x 38 (.q 39 (.q 40 (.q 41 .nil))) .no) .no))))) .no))))))))))))))))))))))))))))))))) TF.mixed (by kernel_rfl) trivial ?_
         refine auT 2 rfl ?_
         refine zq rfl (fun _ hC => sem_binI .i64 (i78) (i11) (.bool false) rfl rfl (binI_neq_t hb91) ⟨rfl, rfl⟩) ?_
         refine auT 29 rfl ?_
         refine ⟨zon rfl ⟨fun _ => trivial, ?_⟩, trivial⟩
         refine auT 4 rfl ?_
         refine ⟨zon rfl ⟨fun _ => trivial, ?_⟩, trivial⟩
         refine ⟨zon rfl ⟨fun _ => trivial, ?_⟩, trivial⟩
         refine auT 3 rfl ?_
         refine au 5 rfl ?_
         exact zr (s.imp fun _ q => ⟨_, rfl, q⟩)
        ·replace s := s.2 hb91
         refine Run.drawM (fun h' => True) [] ⟨[0, 0, 3, 4, 8, 24, 40, 72, 128, 384, 640, 1024, 3072, 5120, 9216, 17408, 32768, 98304, 163840, 294912, 557056, 1081344, 2129920, 4194304, 12582912, 20971520, 37748736, 71303168, 138412032, 272629760, 536870912, 1610612736, 536870912, 6979321856, 9126805504, 19327352832, 34359738368, 103079215104, 171798691840, 309237645312, 584115552256, 1133871366144], [4398046511103, 4398046511103, 4398046511100, 4398046511099, 4398046511095, 4398046511079, 4398046511063, 4398046511039, 4398046510975, 4398046510719, 4398046510591, 4398046510079, 4398046508031, 4398046505983, 4398046501887, 4398046494719, 4398046478335, 4398046412799, 4398046347263, 4398046216191, 4398045954047, 4398045429759, 4398044413951, 4398042316799, 4398033928191, 4398025539583, 4398008762367, 4397975207935, 4397908099071, 4397778075647, 4397509640191, 4396435898367, 4397509640191, 4391067189247, 4388919705599, 4380866641919, 4363686772735, 4294967295999, 4226247819263, 4088808865791, 3813930958847, 3264175144959], [0, 0, 0, 0, 0, 0, 0, 0, 0, 0, 0, 0, 0, 0, 0, 0, 0, 0, 0, 0, 0, 0, 0, 0, 0, 0, 0, 0, 0, 0, 0, 0, 0, 0, 0, 0, 0, 0, 0, 0, 0, 0], 0⟩ (.q 0 (.q 1 (.q 2 (.q 3 (.q 4 (.q 5 (.q 6 (.q 7 (.q 8 (.q 9 (.q 10 (.q 11 (.q 12 (.q 13 (.q 14 (.q 15 (.q 16 (.q 17 (.q 18 (.q 19 (.q 20 (.q 21 (.q 22 (.q 23 (.q 24 (.q 25 (.q 26 (.q 27 (.q 28 (.q 29 (.q 30 (.q 32 (.x 31 (.q 33 (.q 34 (.q 35 (.q 36 (.x 37 (.x 38 (.q 39 (.q 40 (.q 41 .nil))) .no) .no))))) .no))))))))))))))))))))))))))))))))) TF.mixed (by kernel_rfl) trivial ?_
         refine auT 2 rfl ?_
         refine zq rfl (fun _ hC => sem_binI .i64 (i78) (i11) (.bool true) rfl rfl (binI_neq_f hb91) ⟨rfl, rfl⟩) ?_
         refine auT 29 rfl ?_
         refine ⟨zon rfl ⟨fun _ => trivial, ?_⟩, trivial⟩
         refine auT 4 rfl ?_
         refine ⟨zon rfl ⟨fun _ => trivial, ?_⟩, trivial⟩
         refine ⟨zon rfl ⟨fun _ => trivial, ?_⟩, trivial⟩
         refine auT 3 rfl ?_
         refine au 5 rfl ?_
         exact zr (s.imp fun _ q => ⟨_, rfl, q⟩)
       ·replace s := s.1 rfl
        refine au 1 rfl ?_
        refine au 6 rfl ?_
        by_cases hb120 : (i78 : Int) = i11
        ·replace s := s.1 hb120
         refine Run.drawM (fun h' => True) [] ⟨[0, 0, 3, 4, 8, 24, 40, 72, 128, 384, 640, 1024, 3072, 5120, 9216, 17408, 32768, 98304, 163840, 294912, 557056, 1081344, 2129920, 4194304, 12582912, 20971520, 37748736, 71303168, 138412032, 272629760, 536870912, 1610612736, 536870912, 6979321856, 9126805504, 19327352832, 34359738368, 103079215104, 171798691840, 309237645312, 584115552256, 1133871366144], [4398046511103, 4398046511103, 4398046511100, 4398046511099, 4398046511095, 4398046511079, 4398046511063, 4398046511039, 4398046510975, 4398046510719, 4398046510591, 4398046510079, 4398046508031, 4398046505983, 4398046501887, 4398046494719, 4398046478335, 4398046412799, 4398046347263, 4398046216191, 4398045954047, 4398045429759, 4398044413951, 4398042316799, 4398033928191, 4398025539583, 4398008762367, 4397975207935, 4397908099071, 4397778075647, 4397509640191, 4396435898367, 4397509640191, 4391067189247, 4388919705599, 4380866641919, 4363686772735, 4294967295999, 4226247819263, 4088808865791, 3813930958847, 3264175144959], [0, 0, 0, 0, 0, 0, 0, 0, 0, 0, 0, 0, 0, 0, 0, 0, 0, 0, 0, 0, 0, 0, 0, 0, 0, 0, 0, 0, 0, 0, 0, 0, 0, 0, 0, 0, 0, 0, 0, 0, 0, 0], 0⟩ (.q 0 (.q 1 (.q 2 (.q 3 (.q 4 (.q 5 (.q 6 (.q 7 (.q 8 (.q 9 (.q 10 (.q 11 (.q 12 (.q 13 (.q 14 (.q 15 (.q 16 (.q 17 (.q 18 (.q 19 (.q 20 (.q 21 (.q 22 (.q 23 (.q 24 (.q 25 (.q 26 (.q 27 (.q 28 (.q 29 (.q 30 (.q 32 (.x 31 (.q 33 (.q 34 (.q 35 (.q 36 (.x 37 (.x 38 (.q 39 (.q 40 (.q 41 .nil))) .no) .no))))) .no))))))))))))))))))))))))))))))))) TF.mixed (by kernel_rfl) trivial ?_
         refine auT 2 rfl ?_
         refine zq rfl (fun _ hC => sem_binI .i64 (i78) (i11) (.bool false) rfl rfl (binI_neq_t hb120) ⟨rfl, rfl⟩) ?_
         refine auT 29 rfl ?_
         refine ⟨zon rfl ⟨fun _ => trivial, ?_⟩, trivial⟩
         refine auT 4 rfl ?_
         refine ⟨zon rfl ⟨fun _ => trivial, ?_⟩, trivial⟩
         refine ⟨zon rfl ⟨fun _ => trivial, ?_⟩, trivial⟩
         refine auT 3 rfl ?_
         refine au 5 rfl ?_
         exact zr (s.imp fun _ q => ⟨_, rfl, q⟩)
        ·replace s := s.2 hb120
         refine Run.drawM (fun h' => True) [] ⟨[0, 0, 3, 4, 8, 24, 40, 72, 128, 384, 640, 1024, 3072, 5120, 9216, 17408, 32768, 98304, 163840, 294912, 557056, 1081344, 2129920, 4194304, 12582912, 20971520, 37748736, 71303168, 138412032, 272629760, 536870912, 1610612736, 536870912, 6979321856, 9126805504, 19327352832, 34359738368, 103079215104, 171798691840, 309237645312, 584115552256, 1133871366144], [4398046511103, 4398046511103, 4398046511100, 4398046511099, 4398046511095, 4398046511079, 4398046511063, 4398046511039, 4398046510975, 4398046510719, 4398046510591, 4398046510079, 4398046508031, 4398046505983, 4398046501887, 4398046494719, 4398046478335, 4398046412799, 4398046347263, 4398046216191, 4398045954047, 4398045429759, 4398044413951, 4398042316799, 4398033928191, 4398025539583, 4398008762367, 4397975207935, 4397908099071, 4397778075647, 4397509640191, 4396435898367, 4397509640191, 4391067189247, 4388919705599, 4380866641919, 4363686772735, 4294967295999, 4226247819263, 4088808865791, 3813930958847, 3264175144959], [0, 0, 0, 0, 0, 0, 0, 0, 0, 0, 0, 0, 0, 0, 0, 0, 0, 0, 0, 0, 0, 0, 0, 0, 0, 0, 0, 0, 0, 0, 0, 0, 0, 0, 0, 0, 0, 0, 0, 0, 0, 0], 0⟩ (.q 0 (.q 1 (.q 2 (.q 3 (.q 4 (.q 5 (.q 6 (.q 7 (.q 8 (.q 9 (.q 10 (.q 11 (.q 12 (.q 13 (.q 14 (.q 15 (.q 16 (.q 17 (.q 18 (.q 19 (.q 20 (.q 21 (.q 22 (.q 23 (.q 24 (.q 25 (.q 26 (.q 27 (.q 28 (.q 29 (.q 30 (.q 32 (.x 31 (.q 33 (.q 34 (.q 35 (.q 36 (.x 37 (.x 38 (.q 39 (.q 40 (.q 41 .nil))) .no) .no))))) .no))))))))))))))))))))))))))))))))) TF.mixed (by kernel_rfl) trivial ?_
         refine auT 2 rfl ?_
         refine zq rfl (fun _ hC => sem_binI .i64 (i78) (i11) (.bool true) rfl rfl (binI_neq_f hb120) ⟨rfl, rfl⟩) ?_
         refine auT 29 rfl ?_
         refine ⟨zon rfl ⟨fun _ => trivial, ?_⟩, trivial⟩
         refine auT 4 rfl ?_
         refine ⟨zon rfl ⟨fun _ => trivial, ?_⟩, trivial⟩
         refine ⟨zon rfl ⟨fun _ => trivial, ?_⟩, trivial⟩
         refine auT 3 rfl ?_
         refine au 5 rfl ?_
         exact zr (s.imp fun _ q => ⟨_, rfl, q⟩)
      ·replace s := s.1 rfl
       refine au 1 rfl ?_
       refine au 7 rfl ?_
       refine zcall s rfl rfl TF.goes_27 ?_
       rintro _ h147 ⟨i148, a149, n150, c151, b152, rfl, s⟩
       refine au 3 rfl ?_
       cases b152
       ·replace s := s.2 rfl
        refine au 1 rfl ?_
        refine au 4 rfl ?_
        refine Run.seqJ (fun e h154 => Agree [(13, (.pointer p22)), (14, (.pointer p24)), (15, (.pointer p38)), (16, (.pointer p42))] e ∧ S_countermandlaw20_AttemptBack_J4 B p22 p24 p38 p42 h154 Q) ?_ fun j153 => ?_
        ·rintro e h154 ⟨hag, s⟩
         refine Run.env hag ?_; clear hag
         refine Run.seqJ (fun e h156 => Agree [(13, (.pointer p22)), (14, (.pointer p24))] e ∧ S_countermandlaw20_AttemptBack_J5 B p22 p24 h156 Q) ?_ fun j155 => ?_
         ·rintro e h156 ⟨hag, s⟩
          refine Run.env hag ?_; clear hag
          refine au 3 rfl ?_
          refine zcall s rfl rfl TF.goes_16 ?_
          rintro _ h157 ⟨l158, s159, s160, s161, rfl, s⟩
          refine au 3 rfl ?_
          refine zal s rfl TF.zero_55 rfl fun k162 h163 s => ?_
          refine zal s rfl TF.zero_56 rfl fun k164 h165 s => ?_
          obtain ⟨hln, h166, hst, s⟩ := s
          refine zg0 rfl (sem_storeN ⟨k162, 0, none⟩ l158 h166 rfl rfl (TF.sz_55.trans (congrArg some hln.symm)) hst ?_)
          refine zsn s rfl rfl rfl TF.sz_56 rfl fun h167 s => ?_
          refine au 4 rfl ?_
          refine zcall s rfl rfl TF.goes_16 ?_
          rintro _ h168 ⟨l169, s170, s171, s172, rfl, s⟩
          refine au 3 rfl ?_
          refine zal s rfl TF.zero_55 rfl fun k173 h174 s => ?_
          refine zal s rfl TF.zero_56 rfl fun k175 h176 s => ?_
          obtain ⟨hln, h177, hst, s⟩ := s
          refine zg0 rfl (sem_storeN ⟨k173, 0, none⟩ l169 h177 rfl rfl (TF.sz_55.trans (congrArg some hln.symm)) hst ?_)
          refine zsn s rfl rfl rfl TF.sz_56 rfl fun h178 s => ?_
          refine au 3 rfl ?_
          obtain ⟨l179, nl179, hl, s⟩ := s
          refine zg rfl (sem_loadN ⟨k162, 0, none⟩ l179 rfl TF.agg_55 (TF.sz_55.trans (congrArg some nl179.symm)) hl ?_)
          obtain ⟨l180, nl180, hl, s⟩ := s
          refine zg rfl (sem_loadN ⟨k173, 0, none⟩ l180 rfl TF.agg_55 (TF.sz_55.trans (congrArg some nl180.symm)) hl ?_)
          obtain ⟨hi0, hi1, s⟩ := s
          refine zg rfl (sem_aggEq l179 l180 _ ((decide (eqL l179 l180 = true))) (.inl rfl) rfl rfl TF.agg_55 TF.flat_55 TF.eqg_55 hi0 hi1 eqLV_eql ?_)
          refine au 2 rfl ?_
          exact zr (s.imp fun _ q => ⟨_, rfl, q⟩)
         refine au 3 rfl ?_
         refine zcall s rfl rfl TF.goes_14 ?_
         rintro _ h181 ⟨b182, rfl, s⟩
         cases b182
         ·replace s := s.2 rfl
          refine au 12 rfl ?_
          exact zr (s.imp fun _ q => ⟨_, rfl, q⟩)
         ·replace s := s.1 rfl
          refine au 3 rfl ?_
          refine zcall s rfl rfl TF.goes_14 ?_
          rintro _ h183 ⟨b184, rfl, s⟩
          cases b184
          ·replace s := s.2 rfl
           refine au 8 rfl ?_
           exact zr (s.imp fun _ q => ⟨_, rfl, q⟩)
          ·replace s := s.1 rfl
           refine au 5 rfl ?_
           exact Run.of_fin (s.imp fun h' s => j155 _ _ ⟨⟨rfl, rfl, trivial⟩, s⟩)
        refine au 1 rfl ?_
        by_cases hb187 : (i78 : Int) = i11
        ·replace s := s.1 hb187
         by_cases hb199 : ((n80 : Nat) : Int) = 2
         ·replace s := s.1 hb199
          obtain ⟨A204, e205, hi0, hi1, s⟩ := s
          have f207 := hi0; have f208 := hi1
          obtain ⟨i210, hl, s⟩ := s
          have f211 := hl
          by_cases hb212 : (i210 : Int) = 2
          ·replace s := s.1 hb212
           obtain ⟨A217, e218, hi0, hi1, s⟩ := s
           have f220 := hi0; have f221 := hi1
           obtain ⟨i223, hl, s⟩ := s
           have f224 := hl
           by_cases hb225 : (i223 : Int) = (-5)
           ·replace s := s.1 hb225
            obtain ⟨i230, i231, i232, i233, hl, s⟩ := s
            have f234 := hl
            refine Run.drawM (fun h' => cellH B h' (Addr.add A204 (Int.toNat (0) * 2)) = some (.int .i64 (i210)) ∧ cellH B h' (Addr.add (Addr.add A217 (Int.toNat (1) * 2)) 1) = some (.int .i64 (i223)) ∧ CellsAt B h' ⟨k15, 0, none⟩ 0 [(.int .i64 (i230)), (.int .i64 (i231)), (.int .i64 (i232)), (.int .i64 (i233))] ∧ True) [] ⟨[0, 0, 3, 4, 8, 24, 40, 72, 128, 384, 640, 1024, 3072, 5120, 9216, 17408, 32768, 98304, 163840, 294912, 557056, 1081344, 2129920, 4194304, 12582912, 20971520, 37748736, 71303168, 138412032, 272629760, 536870912, 1610612736, 536870912, 6979321856, 9126805504, 19327352832, 34359738368, 103079215104, 171798691840, 309237645312, 584115552256, 1133871366144], [4398046511103, 4398046511103, 4398046511100, 4398046511099, 4398046511095, 4398046511079, 4398046511063, 4398046511039, 4398046510975, 4398046510719, 4398046510591, 4398046510079, 4398046508031, 4398046505983, 4398046501887, 4398046494719, 4398046478335, 4398046412799, 4398046347263, 4398046216191, 4398045954047, 4398045429759, 4398044413951, 4398042316799, 4398033928191, 4398025539583, 4398008762367, 4397975207935, 4397908099071, 4397778075647, 4397509640191, 4396435898367, 4397509640191, 4391067189247, 4388919705599, 4380866641919, 4363686772735, 4294967295999, 4226247819263, 4088808865791, 3813930958847, 3264175144959], [0, 0, 0, 0, 0, 0, 0, 0, 0, 0, 0, 0, 0, 0, 0, 0, 0, 0, 0, 0, 0, 0, 0, 0, 0, 0, 0, 0, 0, 0, 0, 0, 0, 0, 0, 0, 0, 0, 0, 0, 0, 0], 0⟩ (.q 0 (.q 1 (.q 2 (.q 3 (.q 4 (.q 5 (.q 6 (.q 7 (.q 8 (.q 9 (.q 10 (.q 11 (.q 12 (.q 13 (.q 14 (.q 15 (.q 16 (.q 17 (.q 18 (.q 19 (.q 20 (.q 21 (.q 22 (.q 23 (.q 24 (.q 25 (.q 26 (.q 27 (.q 28 (.q 29 (.q 30 (.q 32 (.x 31 (.q 33 (.q 34 (.q 35 (.q 36 (.x 37 (.x 38 (.q 39 (.q 40 (.q 41 .nil))) .no) .no))))) .no))))))))))))))))))))))))))))))))) TF.mixed (by kernel_rfl) ⟨f211, f224, f234, trivial⟩ ?_
            refine auT 2 rfl ?_
            refine zq rfl (fun _ hC => sem_binI .i64 (i78) (i11) (.bool false) rfl rfl (binI_neq_t hb187) ⟨rfl, rfl⟩) ?_
            refine auT 9 rfl ?_
            refine zq rfl (fun _ hC => sem_lenSl a79 n80 c81 rfl TF.sl_80 ⟨rfl, rfl⟩) ?_
            refine zq rfl (fun _ hC => sem_binI .i64 ((n80 : Nat)) (2) (.bool false) rfl rfl (binI_neq_t hb199) ⟨rfl, rfl⟩) ?_
            refine auT 3 rfl ?_
            refine zq rfl (fun _ hC => sem_indexAddrS A204 n80 c81 .i64 (0) (congrArg (fun a => Value.slice a n80 c81) e205) rfl TF.slc_80 f207 f208 ⟨rfl, rfl⟩) ?_
            refine auT 1 rfl ?_
            refine zq rfl (fun _ hC => sem_load1 (Addr.add A204 (Int.toNat (0) * 2)) ((.int .i64 (i210))) rfl TF.agg_3 hC.1 ⟨rfl, rfl⟩) ?_
            refine zq rfl (fun _ hC => sem_binI .i64 (i210) (2) (.bool false) rfl rfl (binI_neq_t hb212) ⟨rfl, rfl⟩) ?_
            refine auT 3 rfl ?_
            refine zq rfl (fun _ hC => sem_indexAddrS A217 n80 c81 .i64 (1) (congrArg (fun a => Value.slice a n80 c81) e218) rfl TF.slc_80 f220 f221 ⟨rfl, rfl⟩) ?_
            refine auT 1 rfl ?_
            refine zq rfl (fun _ hC => sem_load1 (Addr.add (Addr.add A217 (Int.toNat (1) * 2)) 1) ((.int .i64 (i223))) rfl TF.agg_3 hC.2.1 ⟨rfl, rfl⟩) ?_
            refine zq rfl (fun _ hC => sem_binI .i64 (i223) ((-5)) (.bool false) rfl rfl (binI_neq_t hb225) ⟨rfl, rfl⟩) ?_
            refine auT 3 rfl ?_
            refine zq rfl (fun _ hC => sem_loadN ⟨k15, 0, none⟩ [(.int .i64 (i230)), (.int .i64 (i231)), (.int .i64 (i232)), (.int .i64 (i233))] rfl TF.agg_26 TF.sz_26 hC.2.2.1 ⟨rfl, rfl⟩) ?_
            refine ⟨zo rfl (sem_callL [(.pointer p38)] (TF.goes_34) rfl rfl (Spec.mono s fun v h235 hv => ?_)), trivial⟩
            obtain ⟨i236, i237, i238, i239, rfl, s⟩ := hv
            obtain ⟨g240, g241, g242, s⟩ := s
            refine ⟨fun _ => ⟨g240, g241, g242, trivial⟩, ?_⟩
            by_cases hb243 : eqL [(.int .i64 (i236)), (.int .i64 (i237)), (.int .i64 (i238)), (.int .i64 (i239))] [(.int .i64 (i230)), (.int .i64 (i231)), (.int .i64 (i232)), (.int .i64 (i233))] = true
            ·replace s := s.1 hb243
             refine zq rfl (fun _ _ => sem_aggEq [(.int .i64 (i236)), (.int .i64 (i237)), (.int .i64 (i238)), (.int .i64 (i239))] [(.int .i64 (i230)), (.int .i64 (i231)), (.int .i64 (i232)), (.int .i64 (i233))] _ (false) (.inr rfl) rfl rfl TF.agg_26 TF.flat_26 TF.eqg_26 ⟨⟨_, rfl⟩, ⟨_, rfl⟩, ⟨_, rfl⟩, ⟨_, rfl⟩, trivial⟩ ⟨⟨_, rfl⟩, ⟨_, rfl⟩, ⟨_, rfl⟩, ⟨_, rfl⟩, trivial⟩ (eqLT_neq hb243) ⟨rfl, rfl⟩) ?_
             refine auT 3 rfl ?_
             refine ⟨zo rfl (sem_callL [(.pointer p38)] (TF.goes_33) rfl rfl (Spec.mono s fun v h244 hv => ?_)), trivial⟩
             obtain ⟨p245, rfl, s⟩ := hv
             obtain ⟨g246, g247, g248, s⟩ := s
             refine ⟨fun _ => ⟨g246, g247, g248, trivial⟩, ?_⟩
             refine ⟨zo rfl (sem_callL [(.pointer p245)] (TF.goes_38) rfl rfl (Spec.mono s fun v h249 hv => ?_)), trivial⟩
             obtain ⟨a250, n251, c252, rfl, s⟩ := hv
             obtain ⟨g253, g254, g255, s⟩ := s
             refine ⟨fun _ => ⟨g253, g254, g255, trivial⟩, ?_⟩
             refine zq rfl (fun _ _ => sem_lenSl a250 n251 c252 rfl TF.sl_101 ⟨rfl, rfl⟩) ?_
             by_cases hb256 : ((n251 : Nat) : Int) = 1
             ·replace s := s.1 hb256
              refine zq rfl (fun _ _ => sem_binI .i64 ((n251 : Nat)) (1) (.bool false) rfl rfl (binI_neq_t hb256) ⟨rfl, rfl⟩) ?_
              refine auT 1 rfl ?_
              refine au 2 rfl ?_
              exact Run.of_fin (s.imp fun h' s => j153 _ _ ⟨⟨rfl, rfl, rfl, rfl, trivial⟩, s⟩)
             ·replace s := s.2 hb256
              refine zq rfl (fun _ _ => sem_binI .i64 ((n251 : Nat)) (1) (.bool true) rfl rfl (binI_neq_f hb256) ⟨rfl, rfl⟩) ?_
              refine auT 1 rfl ?_
              refine au 5 rfl ?_
              exact zr (s.imp fun _ q => ⟨_, rfl, q⟩)
            ·replace s := s.2 hb243
             refine zq rfl (fun _ _ => sem_aggEq [(.int .i64 (i236)), (.int .i64 (i237)), (.int .i64 (i238)), (.int .i64 (i239))] [(.int .i64 (i230)), (.int .i64 (i231)), (.int .i64 (i232)), (.int .i64 (i233))] _ (true) (.inr rfl) rfl rfl TF.agg_26 TF.flat_26 TF.eqg_26 ⟨⟨_, rfl⟩, ⟨_, rfl⟩, ⟨_, rfl⟩, ⟨_, rfl⟩, trivial⟩ ⟨⟨_, rfl⟩, ⟨_, rfl⟩, ⟨_, rfl⟩, ⟨_, rfl⟩, trivial⟩ (eqLF_neq hb243) ⟨rfl, rfl⟩) ?_
             refine auT 3 rfl ?_
             refine ⟨zon rfl ⟨fun _ => ⟨g240, g241, g242, trivial⟩, ?_⟩, trivial⟩
             refine ⟨zon rfl ⟨fun _ => ⟨g240, g241, g242, trivial⟩, ?_⟩, trivial⟩
             refine auT 3 rfl ?_
             refine au 5 rfl ?_
             exact zr (s.imp fun _ q => ⟨_, rfl, q⟩)
           ·replace s := s.2 hb225
            refine Run.drawM (fun h' => cellH B h' (Addr.add A204 (Int.toNat (0) * 2)) = some (.int .i64 (i210)) ∧ cellH B h' (Addr.add (Addr.add A217 (Int.toNat (1) * 2)) 1) = some (.int .i64 (i223)) ∧ True) [] ⟨[0, 0, 3, 4, 8, 24, 40, 72, 128, 384, 640, 1024, 3072, 5120, 9216, 17408, 32768, 98304, 163840, 294912, 557056, 1081344, 2129920, 4194304, 12582912, 20971520, 37748736, 71303168, 138412032, 272629760, 536870912, 1610612736, 536870912, 6979321856, 9126805504, 19327352832, 34359738368, 103079215104, 171798691840, 309237645312, 584115552256, 1133871366144], [4398046511103, 4398046511103, 4398046511100, 4398046511099, 4398046511095, 4398046511079, 4398046511063, 4398046511039, 4398046510975, 4398046510719, 4398046510591, 4398046510079, 4398046508031, 4398046505983, 4398046501887, 4398046494719, 4398046478335, 4398046412799, 4398046347263, 4398046216191, 4398045954047, 4398045429759, 4398044413951, 4398042316799, 4398033928191, 4398025539583, 4398008762367, 4397975207935, 4397908099071, 4397778075647, 4397509640191, 4396435898367, 4397509640191, 4391067189247, 4388919705599, 4380866641919, 4363686772735, 4294967295999, 4226247819263, 4088808865791, 3813930958847, 3264175144959], [0, 0, 0, 0, 0, 0, 0, 0, 0, 0, 0, 0, 0, 0, 0, 0, 0, 0, 0, 0, 0, 0, 0, 0, 0, 0, 0, 0, 0, 0, 0, 0, 0, 0, 0, 0, 0, 0, 0, 0, 0, 0], 0⟩ (.q 0 (.q 1 (.q 2 (.q 3 (.q 4 (.q 5 (.q 6 (.q 7 (.q 8 (.q 9 (.q 10 (.q 11 (.q 12 (.q 13 (.q 14 (.q 15 (.q 16 (.q 17 (.q 18 (.q 19 (.q 20 (.q 21 (.q 22 (.q 23 (.q 24 (.q 25 (.q 26 (.q 27 (.q 28 (.q 29 (.q 30 (.q 32 (.x 31 (.q 33 (.q 34 (.q 35 (.q 36 (.x 37 (.x 38 (.q 39 (.q 40 (.q 41 .nil))) .no) .no))))) .no))))))))))))))))))))))))))))))))) TF.mixed (by kernel_rfl) ⟨f211, f224, trivial⟩ ?_
            refine auT 2 rfl ?_
            refine zq rfl (fun _ hC => sem_binI .i64 (i78) (i11) (.bool false) rfl rfl (binI_neq_t hb187) ⟨rfl, rfl⟩) ?_
            refine auT 9 rfl ?_
            refine zq rfl (fun _ hC => sem_lenSl a79 n80 c81 rfl TF.sl_80 ⟨rfl, rfl⟩) ?_
            refine zq rfl (fun _ hC => sem_binI .i64 ((n80 : Nat)) (2) (.bool false) rfl rfl (binI_neq_t hb199) ⟨rfl, rfl⟩) ?_
            refine auT 3 rfl ?_
            refine zq rfl (fun _ hC => sem_indexAddrS A204 n80 c81 .i64 (0) (congrArg (fun a => Value.slice a n80 c81) e205) rfl TF.slc_80 f207 f208 ⟨rfl, rfl⟩) ?_
            refine auT 1 rfl ?_
            refine zq rfl (fun _ hC => sem_load1 (Addr.add A204 (Int.toNat (0) * 2)) ((.int .i64 (i210))) rfl TF.agg_3 hC.1 ⟨rfl, rfl⟩) ?_
            refine zq rfl (fun _ hC => sem_binI .i64 (i210) (2) (.bool false) rfl rfl (binI_neq_t hb212) ⟨rfl, rfl⟩) ?_
            refine auT 3 rfl ?_
            refine zq rfl (fun _ hC => sem_indexAddrS A217 n80 c81 .i64 (1) (congrArg (fun a => Value.slice a n80 c81) e218) rfl TF.slc_80 f220 f221 ⟨rfl, rfl⟩) ?_
            refine auT 1 rfl ?_
            refine zq rfl (fun _ hC => sem_load1 (Addr.add (Addr.add A217 (Int.toNat (1) * 2)) 1) ((.int .i64 (i223))) rfl TF.agg_3 hC.2.1 ⟨rfl, rfl⟩) ?_
            refine zq rfl (fun _ hC => sem_binI .i64 (i223) ((-5)) (.bool true) rfl rfl (binI_neq_f hb225) ⟨rfl, rfl⟩) ?_
            refine auT 4 rfl ?_
            refine ⟨zon rfl ⟨fun _ => ⟨f211, f224, trivial⟩, ?_⟩, trivial⟩
            refine auT 4 rfl ?_
            refine ⟨zon rfl ⟨fun _ => ⟨f211, f224, trivial⟩, ?_⟩, trivial⟩
            refine ⟨zon rfl ⟨fun _ => ⟨f211, f224, trivial⟩, ?_⟩, trivial⟩
            refine auT 3 rfl ?_
            refine au 5 rfl ?_
            exact zr (s.imp fun _ q => ⟨_, rfl, q⟩)
          ·replace s := s.2 hb212
           refine Run.drawM (fun h' => cellH B h' (Addr.add A204 (Int.toNat (0) * 2)) = some (.int .i64 (i210)) ∧ True) [] ⟨[0, 0, 3, 4, 8, 24, 40, 72, 128, 384, 640, 1024, 3072, 5120, 9216, 17408, 32768, 98304, 163840, 294912, 557056, 1081344, 2129920, 4194304, 12582912, 20971520, 37748736, 71303168, 138412032, 272629760, 536870912, 1610612736, 536870912, 6979321856, 9126805504, 19327352832, 34359738368, 103079215104, 171798691840, 309237645312, 584115552256, 1133871366144], [4398046511103, 4398046511103, 4398046511100, 4398046511099, 4398046511095, 4398046511079, 4398046511063, 4398046511039, 4398046510975, 4398046510719, 4398046510591, 4398046510079, 4398046508031, 4398046505983, 4398046501887, 4398046494719, 4398046478335, 4398046412799, 4398046347263, 4398046216191, 4398045954047, 4398045429759, 4398044413951, 4398042316799, 4398033928191, 4398025539583, 4398008762367, 4397975207935, 4397908099071, 4397778075647, 4397509640191, 4396435898367, 4397509640191, 4391067189247, 4388919705599, 4380866641919, 4363686772735, 4294967295999, 4226247819263, 4088808865791, 3813930958847, 3264175144959], [0, 0, 0, 0, 0, 0, 0, 0, 0, 0, 0, 0, 0, 0, 0, 0, 0, 0, 0, 0, 0, 0, 0, 0, 0, 0, 0, 0, 0, 0, 0, 0, 0, 0, 0, 0, 0, 0, 0, 0, 0, 0], 0⟩ (.q 0 (.q 1 (.q 2 (.q 3 (.q 4 (.q 5 (.q 6 (.q 7 (.q 8 (.q 9 (.q 10 (.q 11 (.q 12 (.q 13 (.q 14 (.q 15 (.q 16 (.q 17 (.q 18 (.q 19 (.q 20 (.q 21 (.q 22 (.q 23 (.q 24 (.q 25 (.q 26 (.q 27 (.q 28 (.q 29 (.q 30 (.q 32 (.x 31 (.q 33 (.q 34 (.q 35 (.q 36 (.x 37 (.x 38 (.q 39 (.q 40 (.q 41 .nil))) .no) .no))))) .no))))))))))))))))))))))))))))))))) TF.mixed (by kernel_rfl) ⟨f211, trivial⟩ ?_
           refine auT 2 rfl ?_
           refine zq rfl (fun _ hC => sem_binI .i64 (i78) (i11) (.bool false) rfl rfl (binI_neq_t hb187) ⟨rfl, rfl⟩) ?_
           refine auT 9 rfl ?_
           refine zq rfl (fun _ hC => sem_lenSl a79 n80 c81 rfl TF.sl_80 ⟨rfl, rfl⟩) ?_
           refine zq rfl (fun _ hC => sem_binI .i64 ((n80 : Nat)) (2) (.bool false) rfl rfl (binI_neq_t hb199) ⟨rfl, rfl⟩) ?_
           refine auT 3 rfl ?_
           refine zq rfl (fun _ hC => sem_indexAddrS A204 n80 c81 .i64 (0) (congrArg (fun a => Value.slice a n80 c81) e205) rfl TF.slc_80 f207 f208 ⟨rfl, rfl⟩) ?_
           refine auT 1 rfl ?_
           refine zq rfl (fun _ hC => sem_load1 (Addr.add A204 (Int.toNat (0) * 2)) ((.int .i64 (i210))) rfl TF.agg_3 hC.1 ⟨rfl, rfl⟩) ?_
           refine zq rfl (fun _ hC => sem_binI .i64 (i210) (2) (.bool true) rfl rfl (binI_neq_f hb212) ⟨rfl, rfl⟩) ?_
           refine auT 11 rfl ?_
           refine ⟨zon rfl ⟨fun _ => ⟨f211, trivial⟩, ?_⟩, trivial⟩
           refine auT 4 rfl ?_
           refine ⟨zon rfl ⟨fun _ => ⟨f211, trivial⟩, ?_⟩, trivial⟩
           refine ⟨zon rfl ⟨fun _ => ⟨f211, trivial⟩, ?_⟩, trivial⟩
           refine auT 3 rfl ?_
           refine au 5 rfl ?_
           exact zr (s.imp fun _ q => ⟨_, rfl, q⟩)
         ·replace s := s.2 hb199
          refine Run.drawM (fun h' => True) [] ⟨[0, 0, 3, 4, 8, 24, 40, 72, 128, 384, 640, 1024, 3072, 5120, 9216, 17408, 32768, 98304, 163840, 294912, 557056, 1081344, 2129920, 4194304, 12582912, 20971520, 37748736, 71303168, 138412032, 272629760, 536870912, 1610612736, 536870912, 6979321856, 9126805504, 19327352832, 34359738368, 103079215104, 171798691840, 309237645312, 584115552256, 1133871366144], [4398046511103, 4398046511103, 4398046511100, 4398046511099, 4398046511095, 4398046511079, 4398046511063, 4398046511039, 4398046510975, 4398046510719, 4398046510591, 4398046510079, 4398046508031, 4398046505983, 4398046501887, 4398046494719, 4398046478335, 4398046412799, 4398046347263, 4398046216191, 4398045954047, 4398045429759, 4398044413951, 4398042316799, 4398033928191, 4398025539583, 4398008762367, 4397975207935, 4397908099071, 4397778075647, 4397509640191, 4396435898367, 4397509640191, 4391067189247, 4388919705599, 4380866641919, 4363686772735, 4294967295999, 4226247819263, 4088808865791, 3813930958847, 3264175144959], [0, 0, 0, 0, 0, 0, 0, 0, 0, 0, 0, 0, 0, 0, 0, 0, 0, 0, 0, 0, 0, 0, 0, 0, 0, 0, 0, 0, 0, 0, 0, 0, 0, 0, 0, 0, 0, 0, 0, 0, 0, 0], 0⟩ (.q 0 (.q 1 (.q 2 (.q 3 (.q 4 (.q 5 (.q 6 (.q 7 (.q 8 (.q 9 (.q 10 (.q 11 (.q 12 (.q 13 (.q 14 (.q 15 (.q 16 (.q 17 (.q 18 (.q 19 (.q 20 (.q 21 (.q 22 (.q 23 (.q 24 (.q 25 (.q 26 (.q 27 (.q 28 (.q 29 (.q 30 (.q 32 (.x 31 (.q 33 (.q 34 (.q 35 (.q 36 (.x 37 (.x 38 (.q 39 (.q 40 (.q 41 .nil))) .no) .no))))) .no))))))))))))))))))))))))))))))))) TF.mixed (by kernel_rfl) trivial ?_
          refine auT 2 rfl ?_
          refine zq rfl (fun _ hC => sem_binI .i64 (i78) (i11) (.bool false) rfl rfl (binI_neq_t hb187) ⟨rfl, rfl⟩) ?_
          refine auT 9 rfl ?_
          refine zq rfl (fun _ hC => sem_lenSl a79 n80 c81 rfl TF.sl_80 ⟨rfl, rfl⟩) ?_
          refine zq rfl (fun _ hC => sem_binI .i64 ((n80 : Nat)) (2) (.bool true) rfl rfl (binI_neq_f hb199) ⟨rfl, rfl⟩) ?_
          refine auT 18 rfl ?_
          refine ⟨zon rfl ⟨fun _ => trivial, ?_⟩, trivial⟩
          refine auT 4 rfl ?_
          refine ⟨zon rfl ⟨fun _ => trivial, ?_⟩, trivial⟩
          refine ⟨zon rfl ⟨fun _ => trivial, ?_⟩, trivial⟩
          refine auT 3 rfl ?_
          refine au 5 rfl ?_
          exact zr (s.imp fun _ q => ⟨_, rfl, q⟩)
        ·replace s := s.2 hb187
         refine Run.drawM (fun h' => True) [] ⟨[0, 0, 3, 4, 8, 24, 40, 72, 128, 384, 640, 1024, 3072, 5120, 9216, 17408, 32768, 98304, 163840, 294912, 557056, 1081344, 2129920, 4194304, 12582912, 20971520, 37748736, 71303168, 138412032, 272629760, 536870912, 1610612736, 536870912, 6979321856, 9126805504, 19327352832, 34359738368, 103079215104, 171798691840, 309237645312, 584115552256, 1133871366144], [4398046511103, 4398046511103, 4398046511100, 4398046511099, 4398046511095, 4398046511079, 4398046511063, 4398046511039, 4398046510975, 4398046510719, 4398046510591, 4398046510079, 4398046508031, 4398046505983, 4398046501887, 4398046494719, 4398046478335, 4398046412799, 4398046347263, 4398046216191, 4398045954047, 4398045429759, 4398044413951, 4398042316799, 4398033928191, 4398025539583, 4398008762367, 4397975207935, 4397908099071, 4397778075647, 4397509640191, 4396435898367, 4397509640191, 4391067189247, 4388919705599, 4380866641919, 4363686772735, 4294967295999, 4226247819263, 4088808865791, 3813930958847, 3264175144959], [0, 0, 0, 0, 0, 0, 0, 0, 0, 0, 0, 0, 0, 0, 0, 0, 0, 0, 0, 0, 0, 0, 0, 0, 0, 0, 0, 0, 0, 0, 0, 0, 0, 0, 0, 0, 0, 0, 0, 0, 0, 0], 0⟩ (.q 0 (.q 1 (.q 2 (.q 3 (.q 4 (.q 5 (.q 6 (.q 7 (.q 8 (.q 9 (.q 10 (.q 11 (.q 12 (.q 13 (.q 14 (.q 15 (.q 16 (.q 17 (.q 18 (.q 19 (.q 20 (.q 21 (.q 22 (.q 23 (.q 24 (.q 25 (.q 26 (.q 27 (.q 28 (.q 29 (.q 30 (.q 32 (.x 31 (.q 33 (.q 34 (.q 35 (.q 36 (.x 37 (.x 38 (.q 39 (.q 40 (.q 41 .nil))) .no) .no))))) .no))))))))))))))))))))))))))))))))) TF.mixed (by kernel_rfl) trivial ?_
         refine auT 2 rfl ?_
         refine zq rfl (fun _ hC => sem_binI .i64 (i78) (i11) (.bool true) rfl rfl (binI_neq_f hb187) ⟨rfl, rfl⟩) ?_
         refine auT 29 rfl ?_
         refine ⟨zon rfl ⟨fun _ => trivial, ?_⟩, trivial⟩
         refine auT 4 rfl ?_
         refine ⟨zon rfl ⟨fun _ => trivial, ?_⟩, trivial⟩
         refine ⟨zon rfl ⟨fun _ => trivial, ?_⟩, trivial⟩
         refine auT 3 rfl ?_
         refine au 5 rfl ?_
         exact zr (s.imp fun _ q => ⟨_, rfl, q⟩)
       ·replace s := s.1 rfl
        refine au 1 rfl ?_
        refine au 6 rfl ?_
        by_cases hb286 : (i78 : Int) = i11
        ·replace s := s.1 hb286
         refine Run.drawM (fun h' => True) [] ⟨[0, 0, 3, 4, 8, 24, 40, 72, 128, 384, 640, 1024, 3072, 5120, 9216, 17408, 32768, 98304, 163840, 294912, 557056, 1081344, 2129920, 4194304, 12582912, 20971520, 37748736, 71303168, 138412032, 272629760, 536870912, 1610612736, 536870912, 6979321856, 9126805504, 19327352832, 34359738368, 103079215104, 171798691840, 309237645312, 584115552256, 1133871366144], [4398046511103, 4398046511103, 4398046511100, 4398046511099, 4398046511095, 4398046511079, 4398046511063, 4398046511039, 4398046510975, 4398046510719, 4398046510591, 4398046510079, 4398046508031, 4398046505983, 4398046501887, 4398046494719, 4398046478335, 4398046412799, 4398046347263, 4398046216191, 4398045954047, 4398045429759, 4398044413951, 4398042316799, 4398033928191, 4398025539583, 4398008762367, 4397975207935, 4397908099071, 4397778075647, 4397509640191, 4396435898367, 4397509640191, 4391067189247, 4388919705599, 4380866641919, 4363686772735, 4294967295999, 4226247819263, 4088808865791, 3813930958847, 3264175144959], [0, 0, 0, 0, 0, 0, 0, 0, 0, 0, 0, 0, 0, 0, 0, 0, 0, 0, 0, 0, 0, 0, 0, 0, 0, 0, 0, 0, 0, 0, 0, 0, 0, 0, 0, 0, 0, 0, 0, 0, 0, 0], 0⟩ (.q 0 (.q 1 (.q 2 (.q 3 (.q 4 (.q 5 (.q 6 (.q 7 (.q 8 (.q 9 (.q 10 (.q 11 (.q 12 (.q 13 (.q 14 (.q 15 (.q 16 (.q 17 (.q 18 (.q 19 (.q 20 (.q 21 (.q 22 (.q 23 (.q 24 (.q 25 (.q 26 (.q 27 (.q 28 (.q 29 (.q 30 (.q 32 (.x 31 (.q 33 (.q 34 (.q 35 (.q 36 (.x 37 (.x 38 (.q 39 (.q 40 (.q 41 .nil))) .no) .no))))) .no))))))))))))))))))))))))))))))))) TF.mixed (by kernel_rfl) trivial ?_
         refine auT 2 rfl ?_
         refine zq rfl (fun _ hC => sem_binI .i64 (i78) (i11) (.bool false) rfl rfl (binI_neq_t hb286) ⟨rfl, rfl⟩) ?_
         refine auT 29 rfl ?_
         refine ⟨zon rfl ⟨fun _ => trivial, ?_⟩, trivial⟩
         refine auT 4 rfl ?_
         refine ⟨zon rfl ⟨fun _ => trivial, ?_⟩, trivial⟩
         refine ⟨zon rfl ⟨fun _ => trivial, ?_⟩, trivial⟩
         refine auT 3 rfl ?_
         refine au 5 rfl ?_
         exact zr (s.imp fun _ q => ⟨_, rfl, q⟩)
        ·replace s := s.2 hb286
         refine Run.drawM (fun h' => True) [] ⟨[0, 0, 3, 4, 8, 24, 40, 72, 128, 384, 640, 1024, 3072, 5120, 9216, 17408, 32768, 98304, 163840, 294912, 557056, 1081344, 2129920, 4194304, 12582912, 20971520, 37748736, 71303168, 138412032, 272629760, 536870912, 1610612736, 536870912, 6979321856, 9126805504, 19327352832, 34359738368, 103079215104, 171798691840, 309237645312, 584115552256, 1133871366144], [4398046511103, 4398046511103, 4398046511100, 4398046511099, 4398046511095, 4398046511079, 4398046511063, 4398046511039, 4398046510975, 4398046510719, 4398046510591, 4398046510079, 4398046508031, 4398046505983, 4398046501887, 4398046494719, 4398046478335, 4398046412799, 4398046347263, 4398046216191, 4398045954047, 4398045429759, 4398044413951, 4398042316799, 4398033928191, 4398025539583, 4398008762367, 4397975207935, 4397908099071, 4397778075647, 4397509640191, 4396435898367, 4397509640191, 4391067189247, 4388919705599, 4380866641919, 4363686772735, 4294967295999, 4226247819263, 4088808865791, 3813930958847, 3264175144959], [0, 0, 0, 0, 0, 0, 0, 0, 0, 0, 0, 0, 0, 0, 0, 0, 0, 0, 0, 0, 0, 0, 0, 0, 0, 0, 0, 0, 0, 0, 0, 0, 0, 0, 0, 0, 0, 0, 0, 0, 0, 0], 0⟩ (.q 0 (.q 1 (.q 2 (.q 3 (.q 4 (.q 5 (.q 6 (.q 7 (.q 8 (.q 9 (.q 10 (.q 11 (.q 12 (.q 13 (.q 14 (.q 15 (.q 16 (.q 17 (.q 18 (.q 19 (.q 20 (.q 21 (.q 22 (.q 23 (.q 24 (.q 25 (.q 26 (.q 27 (.q 28 (.q 29 (.q 30 (.q 32 (.x 31 (.q 33 (.q 34 (.q 35 (.q 36 (.x 37 (.x 38 (.q 39 (.q 40 (.q 41 .nil))) .no) .no))))) .no))))))))))))))))))))))))))))))))) TF.mixed (by kernel_rfl) trivial ?_
         refine auT 2 rfl ?_
         refine zq rfl (fun _ hC => sem_binI .i64 (i78) (i11) (.bool true) rfl rfl (binI_neq_f hb286) ⟨rfl, rfl⟩) ?_
         refine auT 29 rfl ?_
         refine ⟨zon rfl ⟨fun _ => trivial, ?_⟩, trivial⟩
         refine auT 4 rfl ?_
         refine ⟨zon rfl ⟨fun _ => trivial, ?_⟩, trivial⟩
         refine ⟨zon rfl ⟨fun _ => trivial, ?_⟩, trivial⟩
         refine auT 3 rfl ?_
         refine au 5 rfl ?_
         exact zr (s.imp fun _ q => ⟨_, rfl, q⟩)
     ·replace s := s.1 rfl
      refine au 1 rfl ?_
      refine au 5 rfl ?_
      refine zcall s rfl rfl TF.goes_31 ?_
      rintro _ h314 ⟨rfl, s⟩
      refine au 4 rfl ?_
      refine zcall s rfl rfl TF.goes_27 ?_
      rintro _ h315 ⟨i316, a317, n318, c319, b320, rfl, s⟩
      refine au 3 rfl ?_
      cases b320
      ·replace s := s.2 rfl
       refine au 1 rfl ?_
       refine au 10 rfl ?_
       refine zcall s rfl rfl TF.goes_34 ?_
       rintro _ h321 ⟨i322, i323, i324, i325, rfl, s⟩
       refine au 1 rfl ?_
       refine zg rfl (sem_buildAL [(0, (.int .i64 (i11))), (1, (.int .i64 (1))), (2, (.int .i64 (2))), (3, (.int .i64 (3)))] [(.int .i64 (i11)), (.int .i64 (1)), (.int .i64 (2)), (.int .i64 (3))] TF.zero_26 TF.arr_26 rfl rfl ?_)
       refine zg rfl (sem_aggEq [(.int .i64 (i322)), (.int .i64 (i323)), (.int .i64 (i324)), (.int .i64 (i325))] [(.int .i64 (i11)), (.int .i64 (1)), (.int .i64 (2)), (.int .i64 (3))] _ ((decide (eqL [(.int .i64 (i322)), (.int .i64 (i323)), (.int .i64 (i324)), (.int .i64 (i325))] [(.int .i64 (i11)), (.int .i64 (1)), (.int .i64 (2)), (.int .i64 (3))] = true))) (.inl rfl) rfl rfl TF.agg_26 TF.flat_26 TF.eqg_26 ⟨⟨_, rfl⟩, ⟨_, rfl⟩, ⟨_, rfl⟩, ⟨_, rfl⟩, trivial⟩ ⟨⟨_, rfl⟩, ⟨_, rfl⟩, ⟨_, rfl⟩, ⟨_, rfl⟩, trivial⟩ eqLV_eql ?_)
       refine au 3 rfl ?_
       exact zr (s.imp fun _ q => ⟨_, rfl, q⟩)
      ·replace s := s.1 rfl
       refine au 1 rfl ?_
       refine au 17 rfl ?_
       exact zr (s.imp fun _ q => ⟨_, rfl, q⟩)
    refine au 3 rfl ?_
    refine zg rfl (sem_lenSl a4 n5 c6 rfl TF.sl_31 ?_)
    refine au 3 rfl ?_
    obtain ⟨J331, m329, h0, s⟩ := s
    refine Run.of_fin (h0.imp fun h' h0 => ?_)
    refine Run.loop (σ := Int × Nat) (fun x e h => J331 x.1 x.2 h ∧ Agree [(3, (.int .i64 (i11))), (5, (.bool b13)), (8, (.pointer (some ⟨k15, 0, none⟩))), (13, (.pointer p22)), (14, (.pointer p24)), (15, (.pointer p38)), (16, (.pointer p42)), (88, (.slice a4 n5 c6)), (89, (.int .i64 ((n5 : Nat)))), (90, (.int .i64 (x.1)))] e) (fun x => x.2) ((0), m329) ⟨h0, ⟨rfl, rfl, rfl, rfl, rfl, rfl, rfl, rfl, rfl, rfl, trivial⟩⟩ ?_; clear h0
    rintro ⟨i326, m328⟩ e h327 ⟨hJ, hag⟩ ih330
    have s := s i326 m328 h327 hJ; clear hJ
    refine Run.env hag ?_; clear hag
    refine au 2 rfl ?_
    refine zt s rfl rfl rfl binI_lss_t binI_lss_f (fun s => ?_) fun s => ?_
    ·refine au 8 rfl ?_
     obtain ⟨A332, e333, hi0, hi1, s⟩ := s
     refine zg rfl (sem_indexAddrS A332 n5 c6 .i64 (i326) (congrArg (fun a => Value.slice a n5 c6) e333) rfl TF.slc_31 hi0 hi1 ?_)
     obtain ⟨i334, i335, i336, i337, hl, s⟩ := s
     refine zn hl rfl rfl TF.agg_38 TF.sz_38 rfl ?_
     refine zal s rfl TF.zero_38 rfl fun k338 h339 s => ?_
     refine zsn s rfl rfl rfl TF.sz_38 rfl fun h340 s => ?_
     refine au 3 rfl ?_
     obtain ⟨i341, i342, i343, i344, hl, s⟩ := s
     refine zn hl rfl rfl TF.agg_38 TF.sz_38 rfl ?_
     refine zcall s rfl rfl TF.goes_17 ?_
     rintro _ h345 ⟨i346, i347, rfl, s⟩
     refine au 6 rfl ?_
     exact Run.of_fin (s.imp fun h' ⟨m', hm, s⟩ => ih330 ((IntKind.wrap .i64 ((i326) + (1))), m') _ _ ⟨s, ⟨rfl, rfl, rfl, rfl, rfl, rfl, rfl, rfl, rfl, rfl, trivial⟩⟩ hm)
    ·refine au 4 rfl ?_
     exact Run.of_fin (s.imp fun h' s => j62 _ _ ⟨⟨rfl, rfl, rfl, rfl, rfl, rfl, rfl, trivial⟩, s⟩)
   refine au 3 rfl ?_
   refine zg rfl (sem_lenSl a1 n2 c3 rfl TF.sl_31 ?_)
   refine au 3 rfl ?_
   obtain ⟨J353, m351, h0, s⟩ := s
   refine Run.of_fin (h0.imp fun h' h0 => ?_)
   refine Run.loop (σ := Int × Nat) (fun x e h => J353 x.1 x.2 h ∧ Agree [(1, (.slice a4 n5 c6)), (3, (.int .i64 (i11))), (5, (.bool b13)), (8, (.pointer (some ⟨k15, 0, none⟩))), (13, (.pointer p22)), (14, (.pointer p24)), (15, (.pointer p38)), (16, (.pointer p42)), (69, (.slice a1 n2 c3)), (70, (.int .i64 ((n2 : Nat)))), (71, (.int .i64 (x.1)))] e) (fun x => x.2) ((0), m351) ⟨h0, ⟨rfl, rfl, rfl, rfl, rfl, rfl, rfl, rfl, rfl, rfl, rfl, trivial⟩⟩ ?_; clear h0
   rintro ⟨i348, m350⟩ e h349 ⟨hJ, hag⟩ ih352
   have s := s i348 m350 h349 hJ; clear hJ
   refine Run.env hag ?_; clear hag
   refine au 2 rfl ?_
   refine zt s rfl rfl rfl binI_lss_t binI_lss_f (fun s => ?_) fun s => ?_
   ·refine au 8 rfl ?_
    obtain ⟨A354, e355, hi0, hi1, s⟩ := s
    refine zg rfl (sem_indexAddrS A354 n2 c3 .i64 (i348) (congrArg (fun a => Value.slice a n2 c3) e355) rfl TF.slc_31 hi0 hi1 ?_)
    obtain ⟨i356, i357, i358, i359, hl, s⟩ := s
    refine zn hl rfl rfl TF.agg_38 TF.sz_38 rfl ?_
    refine zal s rfl TF.zero_38 rfl fun k360 h361 s => ?_
    refine zsn s rfl rfl rfl TF.sz_38 rfl fun h362 s => ?_
    refine au 4 rfl ?_
    obtain ⟨i363, i364, i365, i366, hl, s⟩ := s
    refine zn hl rfl rfl TF.agg_38 TF.sz_38 rfl ?_
    refine zcall s rfl rfl TF.goes_17 ?_
    rintro _ h367 ⟨i368, i369, rfl, s⟩
    refine au 3 rfl ?_
    obtain ⟨i370, i371, i372, i373, hl, s⟩ := s
    refine zn hl rfl rfl TF.agg_38 TF.sz_38 rfl ?_
    refine zcall s rfl rfl TF.goes_17 ?_
    rintro _ h374 ⟨i375, i376, rfl, s⟩
    refine au 6 rfl ?_
    exact Run.of_fin (s.imp fun h' ⟨m', hm, s⟩ => ih352 ((IntKind.wrap .i64 ((i348) + (1))), m') _ _ ⟨s, ⟨rfl, rfl, rfl, rfl, rfl, rfl, rfl, rfl, rfl, rfl, rfl, trivial⟩⟩ hm)
   ·refine au 4 rfl ?_
    exact Run.of_fin (s.imp fun h' s => j55 _ _ ⟨⟨rfl, rfl, rfl, rfl, rfl, rfl, rfl, rfl, trivial⟩, s⟩)
  refine au 3 rfl ?_
  refine zg rfl (sem_lenSl a1 n2 c3 rfl TF.sl_31 ?_)
  refine zt s rfl rfl rfl binI_gtr_t binI_gtr_f (fun s => ?_) fun s => ?_
  ·refine au 16 rfl ?_
   exact zr (s.imp fun _ q => ⟨_, rfl, q⟩)
  ·refine au 2 rfl ?_
   refine zg rfl (sem_lenSl a4 n5 c6 rfl TF.sl_31 ?_)
   refine zt s rfl rfl rfl binI_gtr_t binI_gtr_f (fun s => ?_) fun s => ?_
   ·refine au 12 rfl ?_
    exact zr (s.imp fun _ q => ⟨_, rfl, q⟩)
   ·refine au 3 rfl ?_
    refine zg rfl (sem_lenStr s12 rfl TF.isStr_9 ?_)
    refine zt s rfl rfl rfl binI_gtr_t binI_gtr_f (fun s => ?_) fun s => ?_
    ·refine au 7 rfl ?_
     exact zr (s.imp fun _ q => ⟨_, rfl, q⟩)
    ·refine au 4 rfl ?_
     exact Run.of_fin (s.imp fun h' s => j19 _ _ ⟨⟨rfl, rfl, rfl, rfl, rfl, rfl, trivial⟩, s⟩)
theorem C_countermandlaw20_alive.of {B : RO} {h : Heap} {Q : Bool → Heap → Prop} (s : S_countermandlaw20_alive B h Q) : C_countermandlaw20_alive B h Q := by
 refine zspec Tryz.func9 [ResultVar.tmp 0] rfl rfl rfl rfl rfl ?_
 refine au 6 rfl ?_
 refine zcall s rfl rfl TF.goes_24 ?_
 rintro _ h2 ⟨p3, rfl, s⟩
 refine au 5 rfl ?_
 refine zg rfl (sem_buildAL [] [(.int .i64 (0)), (.int .i64 (0)), (.int .i64 (0)), (.int .i64 (0))] TF.zero_26 TF.arr_26 rfl rfl ?_)
 refine zcall s rfl rfl TF.goes_25 ?_
 rintro _ h4 ⟨p5, rfl, s⟩
 refine au 1 rfl ?_
 refine zg rfl (sem_buildAL [] [(.int .i64 (0)), (.int .i64 (0)), (.int .i64 (0)), (.int .i64 (0))] TF.zero_26 TF.arr_26 rfl rfl ?_)
 refine zcall s rfl rfl TF.goes_25 ?_
 rintro _ h6 ⟨p7, rfl, s⟩
 refine au 7 rfl ?_
 refine zcall s rfl rfl TF.goes_21 ?_
 rintro _ h8 ⟨i9, rfl, s⟩
 refine zu s rfl rfl rfl binI_neq_t binI_neq_f (fun s => ?_) fun s => ?_
 ·refine au 6 rfl ?_
  refine zcall s rfl rfl TF.goes_11 ?_
  rintro _ h10 ⟨i11, i12, rfl, s⟩
  refine au 9 rfl ?_
  refine zcall s rfl rfl TF.goes_11 ?_
  rintro _ h13 ⟨i14, i15, rfl, s⟩
  refine au 9 rfl ?_
  refine zt s rfl rfl rfl binI_eql_t binI_eql_f (fun s => ?_) fun s => ?_
  ·refine au 2 rfl ?_
   refine zt s rfl rfl rfl binI_eql_t binI_eql_f (fun s => ?_) fun s => ?_
   ·refine au 3 rfl ?_
    refine zcall s rfl rfl TF.goes_14 ?_
    rintro _ h16 ⟨b17, rfl, s⟩
    cases b17
    ·replace s := s.2 rfl
     refine au 10 rfl ?_
     exact zr (s.imp fun _ q => ⟨_, rfl, q⟩)
    ·replace s := s.1 rfl
     refine au 3 rfl ?_
     refine znil s rfl rfl fun A18 s => ?_
     refine au 1 rfl ?_
     refine zl s rfl rfl TF.agg_3 fun i20 s => ?_
     refine au 4 rfl ?_
     exact zr (s.imp fun _ q => ⟨_, rfl, q⟩)
   ·refine au 14 rfl ?_
    exact zr (s.imp fun _ q => ⟨_, rfl, q⟩)
  ·refine au 17 rfl ?_
   exact zr (s.imp fun _ q => ⟨_, rfl, q⟩)
 ·refine au 6 rfl ?_
  exact zr (s.imp fun _ q => ⟨_, rfl, q⟩)
theorem C_attempt_Attempt_Load.of {B : RO} {p1 : Option Addr} {i2 : Int} {h : Heap} {Q : Int → Int → Heap → Prop} (s : S_attempt_Attempt_Load B p1 i2 h Q) : C_attempt_Attempt_Load B p1 i2 h Q := by
 refine zspec Tryz.func11 [ResultVar.tmp 4, ResultVar.tmp 5] rfl rfl rfl rfl rfl ?_
 refine au 5 rfl ?_
 refine Run.seqJ (fun e h6 => Agree [(0, (.pointer p1)), (1, (.int .i64 (i2)))] e ∧ S_attempt_Attempt_Load_J1 B p1 i2 h6 Q) ?_ fun j5 => ?_
 ·rintro e h6 ⟨hag, s⟩
  refine Run.env hag ?_; clear hag
  refine au 4 rfl ?_
  refine znil s rfl rfl fun A7 s => ?_
  refine au 2 rfl ?_
  refine zl s rfl rfl TF.agg_91 fun p9 s => ?_
  refine au 1 rfl ?_
  refine zcall s rfl rfl TF.goes_39 ?_
  rintro _ h10 ⟨i11, b12, rfl, s⟩
  refine au 2 rfl ?_
  cases b12
  ·replace s := s.2 rfl
   refine au 1 rfl ?_
   refine au 14 rfl ?_
   refine zcall s rfl rfl TF.goes_40 ?_
   rintro _ h13 ⟨i14, rfl, s⟩
   refine au 5 rfl ?_
   refine zu s rfl rfl rfl binI_neq_t binI_neq_f (fun s => ?_) fun s => ?_
   ·refine au 6 rfl ?_
    refine znil s rfl rfl fun A15 s => ?_
    refine au 1 rfl ?_
    refine zl s rfl rfl TF.agg_29 fun p17 s => ?_
    refine znil s rfl rfl fun A18 s => ?_
    refine au 1 rfl ?_
    refine zl s rfl rfl TF.agg_39 fun p20 s => ?_
    refine au 1 rfl ?_
    refine zcall s rfl rfl TF.goes_41 ?_
    rintro _ h21 ⟨i22, i23, rfl, s⟩
    refine au 12 rfl ?_
    exact zr (s.imp fun _ q => ⟨_, _, rfl, q⟩)
   ·refine au 8 rfl ?_
    exact zr (s.imp fun _ q => ⟨_, _, rfl, q⟩)
  ·replace s := s.1 rfl
   refine au 1 rfl ?_
   refine au 14 rfl ?_
   exact zr (s.imp fun _ q => ⟨_, _, rfl, q⟩)
 refine au 4 rfl ?_
 by_cases hb24 : p1 = none
 ·replace s := s.1 hb24
  refine zg rfl (sem_ptrNilT p1 (.inl rfl) true rfl rfl TF.ptr_30 hb24 rfl ?_)
  refine au 8 rfl ?_
  exact zr (s.imp fun _ q => ⟨_, _, rfl, q⟩)
 ·replace s := s.2 hb24
  refine zg rfl (sem_ptrNilF p1 (.inl rfl) false rfl rfl TF.ptr_30 hb24 rfl ?_)
  refine au 6 rfl ?_
  refine zt s rfl rfl rfl binI_lss_t binI_lss_f (fun s => ?_) fun s => ?_
  ·refine au 12 rfl ?_
   exact zr (s.imp fun _ q => ⟨_, _, rfl, q⟩)
  ·refine au 2 rfl ?_
   refine zt s rfl rfl rfl binI_geq_t binI_geq_f (fun s => ?_) fun s => ?_
   ·refine au 9 rfl ?_
    exact zr (s.imp fun _ q => ⟨_, _, rfl, q⟩)
   ·refine au 6 rfl ?_
    exact Run.of_fin (s.imp fun h' s => j5 _ _ ⟨⟨rfl, rfl, trivial⟩, s⟩)
theorem C_attempt_Attempt_Valid.of {B : RO} {p1 : Option Addr} {h : Heap} {Q : Bool → Heap → Prop} (s : S_attempt_Attempt_Valid B p1 h Q) : C_attempt_Attempt_Valid B p1 h Q := by
 refine zspec Tryz.func13 [ResultVar.tmp 2] rfl rfl rfl rfl rfl ?_
 refine au 5 rfl ?_
 by_cases hb4 : p1 = none
 ·replace s := s.1 hb4
  refine Run.drawM (fun h' => True) [] ⟨[0, 1, 2, 4, 12, 20, 36, 4, 132, 260, 516, 1028, 2116, 4100, 16383], [32767, 32766, 32765, 32763, 32755, 32747, 32731, 32763, 32635, 32507, 32251, 31739, 30651, 28667, 24575], [0, 0, 0, 0, 0, 0, 0, 0, 0, 0, 0, 0, 0, 0, 0], 0⟩ (.q 0 (.q 1 (.q 2 (.q 3 (.q 4 (.q 5 (.q 6 (.q 7 (.q 8 (.q 9 (.q 10 (.x 11 (.x 12 (.q 13 (.q 14 .nil)) .no) .no)))))))))))) TF.mixed (by kernel_rfl) trivial ?_
  refine auT 1 rfl ?_
  refine zq rfl (fun _ hC => sem_ptrNilT p1 (.inr rfl) false rfl rfl TF.ptr_30 hb4 rfl ⟨rfl, rfl⟩) ?_
  refine auT 9 rfl ?_
  refine ⟨zon rfl ⟨fun _ => trivial, ?_⟩, trivial⟩
  refine ⟨zon rfl ⟨fun _ => trivial, ?_⟩, trivial⟩
  refine auT 2 rfl ?_
  exact zr (s.imp fun _ q => ⟨_, rfl, q⟩)
 ·replace s := s.2 hb4
  obtain ⟨A10, e11, s⟩ := s
  obtain ⟨p14, hl, s⟩ := s
  have f15 := hl
  obtain ⟨A17, e18, s⟩ := s
  obtain ⟨p21, hl, s⟩ := s
  have f22 := hl
  refine Run.drawM (fun h' => cellH B h' (Addr.add A10 1) = some (.pointer p14) ∧ cellH B h' A17 = some (.pointer p21) ∧ True) [] ⟨[0, 1, 2, 4, 12, 20, 36, 4, 132, 260, 516, 1028, 2116, 4100, 16383], [32767, 32766, 32765, 32763, 32755, 32747, 32731, 32763, 32635, 32507, 32251, 31739, 30651, 28667, 24575], [0, 0, 0, 0, 0, 0, 0, 0, 0, 0, 0, 0, 0, 0, 0], 0⟩ (.q 0 (.q 1 (.q 2 (.q 3 (.q 4 (.q 5 (.q 6 (.q 7 (.q 8 (.q 9 (.q 10 (.x 11 (.x 12 (.q 13 (.q 14 .nil)) .no) .no)))))))))))) TF.mixed (by kernel_rfl) ⟨f15, f22, trivial⟩ ?_
  refine auT 1 rfl ?_
  refine zq rfl (fun _ hC => sem_ptrNilF p1 (.inr rfl) true rfl rfl TF.ptr_30 hb4 rfl ⟨rfl, rfl⟩) ?_
  refine auT 2 rfl ?_
  refine zq rfl (fun _ hC => sem_nilCheck A10 (congrArg Value.pointer e11) ⟨rfl, rfl⟩) ?_
  refine auT 1 rfl ?_
  refine zq rfl (fun _ hC => sem_load1 (Addr.add A10 1) ((.pointer p14)) rfl TF.agg_69 hC.1 ⟨rfl, rfl⟩) ?_
  refine auT 1 rfl ?_
  refine zq rfl (fun _ hC => sem_nilCheck A17 (congrArg Value.pointer e18) ⟨rfl, rfl⟩) ?_
  refine auT 1 rfl ?_
  refine zq rfl (fun _ hC => sem_load1 A17 ((.pointer p21)) rfl TF.agg_29 hC.2.1 ⟨rfl, rfl⟩) ?_
  refine ⟨zo rfl (sem_callL [(.pointer p21)] (TF.goes_20) rfl rfl (Spec.mono s fun v h23 hv => ?_)), trivial⟩
  obtain ⟨l24, rfl, s⟩ := hv
  obtain ⟨g25, g26, s⟩ := s
  refine ⟨fun _ => ⟨g25, g26, trivial⟩, ?_⟩
  refine ⟨zo rfl (sem_callL [(.pointer p14), (.agg (List.toArray l24))] (TF.goes_42) rfl rfl (Spec.mono s fun v h27 hv => ?_)), trivial⟩
  obtain ⟨b28, rfl, s⟩ := hv
  obtain ⟨g29, g30, s⟩ := s
  refine ⟨fun _ => ⟨g29, g30, trivial⟩, ?_⟩
  refine auT 2 rfl ?_
  exact zr (s.imp fun _ q => ⟨_, rfl, q⟩)
theorem C_attempt_Attempt_Land.of {B : RO} {p1 : Option Addr} {h : Heap} {Q : Bool → Heap → Prop} (s : S_attempt_Attempt_Land B p1 h Q) : C_attempt_Attempt_Land B p1 h Q := by
 refine zspec Tryz.func14 [ResultVar.tmp 2] rfl rfl rfl rfl rfl ?_
 refine au 8 rfl ?_
 refine zcall s rfl rfl TF.goes_13 ?_
 rintro _ h3 ⟨b4, rfl, s⟩
 cases b4
 ·replace s := s.2 rfl
  refine au 7 rfl ?_
  exact zr (s.imp fun _ q => ⟨_, rfl, q⟩)
 ·replace s := s.1 rfl
  refine au 7 rfl ?_
  refine znil s rfl rfl fun A5 s => ?_
  refine au 1 rfl ?_
  refine zl s rfl rfl TF.agg_29 fun p7 s => ?_
  refine zal s rfl TF.zero_29 rfl fun k8 h9 s => ?_
  refine zs1 s rfl rfl rfl rfl TF.sz_29 fun h10 s => ?_
  refine au 3 rfl ?_
  refine zl s rfl rfl TF.agg_29 fun p11 s => ?_
  refine znil s rfl rfl fun A12 s => ?_
  refine au 1 rfl ?_
  refine zl s rfl rfl TF.agg_3 fun i14 s => ?_
  refine au 1 rfl ?_
  refine znil s rfl rfl fun A15 s => ?_
  refine au 1 rfl ?_
  refine zs1 s rfl rfl rfl rfl TF.sz_3 fun h17 s => ?_
  refine au 1 rfl ?_
  refine Run.seqJ (fun e h19 => Agree [(0, (.pointer p1)), (3, (.pointer (some ⟨k8, 0, none⟩)))] e ∧ S_attempt_Attempt_Land_J1 B p1 k8 h19 Q) ?_ fun j18 => ?_
  ·rintro e h19 ⟨hag, s⟩
   refine Run.env hag ?_; clear hag
   refine au 1 rfl ?_
   refine Run.drawM (fun h' => h' = h19) [13] ⟨[0, 1, 2, 4, 8, 0, 32, 64, 128, 0, 512, 1024, 2048, 4368], [16383, 16382, 16381, 16379, 16375, 16383, 16351, 16319, 16255, 16383, 15871, 15359, 14335, 12015], [0, 1, 3, 7, 15, 0, 32, 96, 224, 0, 512, 1536, 3584, 8191], 8192⟩ (.q 0 (.q 1 (.q 2 (.q 3 (.q 4 (.q 5 (.q 6 (.q 7 (.q 8 (.q 9 (.q 10 (.q 11 (.q 12 (.x 13 .nil .no)))))))))))))) TF.mixed (by kernel_rfl) rfl ?_
   refine auT 1 rfl ?_
   obtain ⟨A20, e21, s⟩ := s
   refine zqe rfl (sem_nilCheck A20 (congrArg Value.pointer e21) ⟨rfl, rfl⟩) ?_
   refine auT 2 rfl ?_
   obtain ⟨p22, hl, s⟩ := s
   refine zqe rfl (sem_load1 (Addr.add (Addr.add A20 2) 1) ((.pointer p22)) rfl TF.agg_92 hl ⟨rfl, rfl⟩) ?_
   obtain ⟨p23, hl, s⟩ := s
   refine zqe rfl (sem_load1 ⟨k8, 0, none⟩ ((.pointer p23)) rfl TF.agg_29 hl ⟨rfl, rfl⟩) ?_
   obtain ⟨A24, e25, s⟩ := s
   refine zqe rfl (sem_nilCheck A24 (congrArg Value.pointer e25) ⟨rfl, rfl⟩) ?_
   refine auT 1 rfl ?_
   obtain ⟨p26, hl, s⟩ := s
   refine zqe rfl (sem_load1 (Addr.add A24 1) ((.pointer p26)) rfl TF.agg_40 hl ⟨rfl, rfl⟩) ?_
   obtain ⟨p27, hl, s⟩ := s
   refine zqe rfl (sem_load1 ⟨k8, 0, none⟩ ((.pointer p27)) rfl TF.agg_29 hl ⟨rfl, rfl⟩) ?_
   obtain ⟨A28, e29, s⟩ := s
   refine zqe rfl (sem_nilCheck A28 (congrArg Value.pointer e29) ⟨rfl, rfl⟩) ?_
   refine auT 1 rfl ?_
   obtain ⟨i30, hl, s⟩ := s
   refine zqe rfl (sem_load1 (Addr.add A28 3) ((.int .i64 (i30))) rfl TF.agg_3 hl ⟨rfl, rfl⟩) ?_
   refine ⟨zo rfl (sem_callL [(.pointer p22), (.pointer p26), (.int .i64 (i30))] (TF.goes_45) rfl rfl (Spec.mono s fun v h31 hv => ?_)), trivial⟩
   obtain ⟨i32, rfl, s⟩ := hv
   refine ⟨fun hz => Bool.noConfusion hz, ?_⟩
   refine au 6 rfl ?_
   obtain ⟨J38, m36, h0, s⟩ := s
   refine Run.of_fin (h0.imp fun h' h0 => ?_)
   refine Run.loop (σ := Int × Nat) (fun x e h => J38 x.1 x.2 h ∧ Agree [(0, (.pointer p1)), (3, (.pointer (some ⟨k8, 0, none⟩))), (57, (.int .i64 (x.1)))] e) (fun x => x.2) ((0), m36) ⟨h0, ⟨rfl, rfl, rfl, trivial⟩⟩ ?_; clear h0
   rintro ⟨i33, m35⟩ e h34 ⟨hJ, hag⟩ ih37
   have s := s i33 m35 h34 hJ; clear hJ
   refine Run.env hag ?_; clear hag
   refine au 2 rfl ?_
   refine zt s rfl rfl rfl binI_lss_t binI_lss_f (fun s => ?_) fun s => ?_
   ·refine au 14 rfl ?_
    refine znil s rfl rfl fun A39 s => ?_
    refine au 2 rfl ?_
    refine zl s rfl rfl TF.agg_93 fun p41 s => ?_
    refine au 1 rfl ?_
    refine zcall s rfl rfl TF.goes_46 ?_
    rintro _ h42 ⟨i43, rfl, s⟩
    refine au 5 rfl ?_
    refine zt s rfl rfl rfl binI_gtr_t binI_gtr_f (fun s => ?_) fun s => ?_
    ·refine au 4 rfl ?_
     refine zl s rfl rfl TF.agg_29 fun p44 s => ?_
     refine znil s rfl rfl fun A45 s => ?_
     refine au 1 rfl ?_
     refine zl s rfl rfl TF.agg_41 fun p47 s => ?_
     refine au 1 rfl ?_
     refine zcall s rfl rfl TF.goes_47 ?_
     rintro _ h48 ⟨i49, i50, rfl, s⟩
     refine au 6 rfl ?_
     refine Run.drawM (fun h' => h' = h48) [12] ⟨[0, 1, 2, 4, 0, 0, 0, 96, 0, 256, 512, 1024, 2200], [8191, 8190, 8189, 8187, 8191, 8191, 8191, 8095, 8191, 7935, 7679, 7167, 5991], [0, 1, 3, 7, 0, 0, 0, 96, 0, 256, 768, 1792, 4095], 4096⟩ (.q 0 (.q 1 (.q 2 (.q 3 (.q 4 (.q 5 (.q 6 (.q 7 (.q 8 (.q 9 (.q 10 (.q 11 (.x 12 .nil .no))))))))))))) TF.mixed (by kernel_rfl) rfl ?_
     obtain ⟨p51, hl, s⟩ := s
     refine zqe rfl (sem_load1 ⟨k8, 0, none⟩ ((.pointer p51)) rfl TF.agg_29 hl ⟨rfl, rfl⟩) ?_
     obtain ⟨A52, e53, s⟩ := s
     refine zqe rfl (sem_nilCheck A52 (congrArg Value.pointer e53) ⟨rfl, rfl⟩) ?_
     refine auT 1 rfl ?_
     obtain ⟨p54, hl, s⟩ := s
     refine zqe rfl (sem_load1 (Addr.add A52 2) ((.pointer p54)) rfl TF.agg_41 hl ⟨rfl, rfl⟩) ?_
     refine auT 4 rfl ?_
     obtain ⟨p55, hl, s⟩ := s
     refine zqe rfl (sem_load1 ⟨k8, 0, none⟩ ((.pointer p55)) rfl TF.agg_29 hl ⟨rfl, rfl⟩) ?_
     obtain ⟨A56, e57, s⟩ := s
     refine zqe rfl (sem_nilCheck A56 (congrArg Value.pointer e57) ⟨rfl, rfl⟩) ?_
     refine auT 1 rfl ?_
     obtain ⟨i58, hl, s⟩ := s
     refine zqe rfl (sem_load1 (Addr.add A56 3) ((.int .i64 (i58))) rfl TF.agg_3 hl ⟨rfl, rfl⟩) ?_
     refine ⟨zo rfl (sem_callL [(.pointer p54), (.int .i64 (i33)), (.int .i64 (IntKind.wrap .i64 ((i49) + (i43)))), (.int .i64 (i58))] (TF.goes_48) rfl rfl (Spec.mono s fun v h59 hv => ?_)), trivial⟩
     obtain ⟨b60, rfl, s⟩ := hv
     refine ⟨fun hz => Bool.noConfusion hz, ?_⟩
     refine au 5 rfl ?_
     exact Run.of_fin (s.imp fun h' ⟨m', hm, s⟩ => ih37 ((IntKind.wrap .i64 ((i33) + (1))), m') _ _ ⟨s, ⟨rfl, rfl, rfl, trivial⟩⟩ hm)
    ·refine au 8 rfl ?_
     exact Run.of_fin (s.imp fun h' ⟨m', hm, s⟩ => ih37 ((IntKind.wrap .i64 ((i33) + (1))), m') _ _ ⟨s, ⟨rfl, rfl, rfl, trivial⟩⟩ hm)
   ·refine au 8 rfl ?_
    exact zr (s.imp fun _ q => ⟨_, rfl, q⟩)
  refine au 3 rfl ?_
  refine znil s rfl rfl fun A61 s => ?_
  refine au 2 rfl ?_
  refine zl s rfl rfl TF.agg_91 fun p63 s => ?_
  refine zcall s rfl rfl TF.goes_43 ?_
  rintro v65 h64 ⟨_, rfl, s⟩
  refine au 2 rfl ?_
  obtain ⟨xs72, G68, J71, hit, hins, hG, h0, s, hR⟩ := s
  refine Run.of_fin (h0.imp fun h' h0 => ?_)
  refine Run.range (v65) (xs72.map (fun x : Int × Int => [(.int .i64 (x.1)), (.int .i64 (x.2))])) G68 J71 rfl hit hins hG h0 rfl (fun a ha => by obtain ⟨x, _, rfl⟩ := List.mem_map.1 ha; rfl) ?_ ?_
  ·rintro q70 args h69 ha hJ
   obtain ⟨⟨i66, i67⟩, hx, rfl⟩ := Option.map_eq_some_iff.1 ((List.getElem?_map ..).symm.trans ha)
   have s := s q70 h69 i66 i67 hx hJ; clear hJ hx ha
   refine zput rfl ?_
   refine au 7 rfl ?_
   refine Run.begin ⟨rfl, ?_⟩
   refine au 1 rfl ?_
   refine Run.drawM (fun h' => h' = h69) [10] ⟨[0, 1, 2, 4, 0, 0, 0, 64, 128, 256, 568], [2047, 2046, 2045, 2043, 2047, 2047, 2047, 1983, 1919, 1791, 1479], [0, 1, 3, 7, 0, 0, 0, 64, 192, 448, 1023], 1024⟩ (.q 0 (.q 1 (.q 2 (.q 3 (.q 4 (.q 5 (.q 6 (.q 7 (.q 8 (.q 9 (.x 10 .nil .no))))))))))) TF.mixed (by kernel_rfl) rfl ?_
   obtain ⟨p73, hl, s⟩ := s
   refine zqe rfl (sem_load1 ⟨k8, 0, none⟩ ((.pointer p73)) rfl TF.agg_29 hl ⟨rfl, rfl⟩) ?_
   obtain ⟨A74, e75, s⟩ := s
   refine zqe rfl (sem_nilCheck A74 (congrArg Value.pointer e75) ⟨rfl, rfl⟩) ?_
   refine auT 1 rfl ?_
   obtain ⟨p76, hl, s⟩ := s
   refine zqe rfl (sem_load1 A74 ((.pointer p76)) rfl TF.agg_39 hl ⟨rfl, rfl⟩) ?_
   refine auT 2 rfl ?_
   obtain ⟨p77, hl, s⟩ := s
   refine zqe rfl (sem_load1 ⟨k8, 0, none⟩ ((.pointer p77)) rfl TF.agg_29 hl ⟨rfl, rfl⟩) ?_
   obtain ⟨A78, e79, s⟩ := s
   refine zqe rfl (sem_nilCheck A78 (congrArg Value.pointer e79) ⟨rfl, rfl⟩) ?_
   refine auT 1 rfl ?_
   obtain ⟨i80, hl, s⟩ := s
   refine zqe rfl (sem_load1 (Addr.add A78 3) ((.int .i64 (i80))) rfl TF.agg_3 hl ⟨rfl, rfl⟩) ?_
   refine ⟨zo rfl (sem_callL [(.pointer p76), (.int .i64 (i66)), (.int .i64 (i67)), (.int .i64 (i80))] (TF.goes_44) rfl rfl (Spec.mono s fun v h81 hv => ?_)), trivial⟩
   obtain ⟨b82, rfl, s⟩ := hv
   refine ⟨fun hz => Bool.noConfusion hz, ?_⟩
   refine au 1 rfl ?_
   refine Run.of_fin (s.imp fun h' s => ?_)
   exact Run.fall (.inl ⟨rfl, s⟩)
  ·intro h69 hJ
   have s := hR h69 (by simpa using hJ); clear hJ hR
   refine au 1 rfl ?_
   exact Run.of_fin (s.imp fun h' s => j18 _ _ ⟨⟨rfl, rfl, trivial⟩, s⟩)
theorem C_countermandlaw20_things.of {B : RO} {p1 : Option Addr} {h : Heap} {Q : List Value → ByteArray → ByteArray → ByteArray → Heap → Prop} (s : S_countermandlaw20_things B p1 h Q) : C_countermandlaw20_things B p1 h Q := by
 refine zspec Tryz.func16 [ResultVar.cell 2 55, ResultVar.cell 3 56] rfl rfl rfl rfl rfl ?_
 refine au 2 rfl ?_
 refine zal s rfl TF.zero_55 rfl fun k6 h7 s => ?_
 refine zal s rfl TF.zero_56 rfl fun k8 h9 s => ?_
 refine au 3 rfl ?_
 refine zal s rfl TF.zero_55 rfl fun k10 h11 s => ?_
 refine au 3 rfl ?_
 refine zal s rfl TF.zero_56 rfl fun k12 h13 s => ?_
 refine au 1 rfl ?_
 refine Run.seqJ (fun e h15 => Agree [(0, (.pointer p1)), (2, (.pointer (some ⟨k6, 0, none⟩))), (3, (.pointer (some ⟨k8, 0, none⟩))), (4, (.pointer (some ⟨k10, 0, none⟩))), (5, (.pointer (some ⟨k12, 0, none⟩)))] e ∧ S_countermandlaw20_things_J1 B p1 k6 k8 k10 k12 h15 Q) ?_ fun j14 => ?_
 ·rintro e h15 ⟨hag, s⟩
  refine Run.env hag ?_; clear hag
  refine Run.seqJ (fun e h17 => Agree [(0, (.pointer p1)), (2, (.pointer (some ⟨k6, 0, none⟩))), (3, (.pointer (some ⟨k8, 0, none⟩))), (4, (.pointer (some ⟨k10, 0, none⟩))), (5, (.pointer (some ⟨k12, 0, none⟩)))] e ∧ S_countermandlaw20_things_J2 B p1 k6 k8 k10 k12 h17 Q) ?_ fun j16 => ?_
  ·rintro e h17 ⟨hag, s⟩
   refine Run.env hag ?_; clear hag
   refine au 6 rfl ?_
   obtain ⟨J23, m21, h0, s⟩ := s
   refine Run.of_fin (h0.imp fun h' h0 => ?_)
   refine Run.loop (σ := Int × Nat) (fun x e h => J23 x.1 x.2 h ∧ Agree [(0, (.pointer p1)), (2, (.pointer (some ⟨k6, 0, none⟩))), (3, (.pointer (some ⟨k8, 0, none⟩))), (4, (.pointer (some ⟨k10, 0, none⟩))), (5, (.pointer (some ⟨k12, 0, none⟩))), (44, (.int .i64 (x.1)))] e) (fun x => x.2) ((0), m21) ⟨h0, ⟨rfl, rfl, rfl, rfl, rfl, rfl, trivial⟩⟩ ?_; clear h0
   rintro ⟨i18, m20⟩ e h19 ⟨hJ, hag⟩ ih22
   have s := s i18 m20 h19 hJ; clear hJ
   refine Run.env hag ?_; clear hag
   refine au 2 rfl ?_
   refine zt s rfl rfl rfl binI_lss_t binI_lss_f (fun s => ?_) fun s => ?_
   ·refine au 15 rfl ?_
    refine znil s rfl rfl fun A24 s => ?_
    refine au 1 rfl ?_
    refine zl s rfl rfl TF.agg_41 fun p26 s => ?_
    refine au 1 rfl ?_
    refine zcall s rfl rfl TF.goes_47 ?_
    rintro _ h27 ⟨i28, i29, rfl, s⟩
    refine au 4 rfl ?_
    obtain ⟨hi0, hi1, s⟩ := s
    refine zg rfl (sem_indexAddrA ⟨k10, 20, none⟩ .i64 (i18) rfl rfl TF.arr_53 hi0 hi1 ?_)
    refine zs1 s rfl rfl rfl rfl TF.sz_3 fun h30 s => ?_
    refine au 4 rfl ?_
    refine znil s rfl rfl fun A31 s => ?_
    refine au 1 rfl ?_
    refine zl s rfl rfl TF.agg_41 fun p33 s => ?_
    refine au 1 rfl ?_
    refine zcall s rfl rfl TF.goes_50 ?_
    rintro _ h34 ⟨s35, rfl, s⟩
    obtain ⟨hi0, hi1, s⟩ := s
    refine zg rfl (sem_indexAddrA ⟨k12, 0, none⟩ .i64 (i18) rfl rfl TF.arr_56 hi0 hi1 ?_)
    refine zs1 s rfl rfl rfl rfl TF.sz_9 fun h36 s => ?_
    refine au 6 rfl ?_
    exact Run.of_fin (s.imp fun h' ⟨m', hm, s⟩ => ih22 ((IntKind.wrap .i64 ((i18) + (1))), m') _ _ ⟨s, ⟨rfl, rfl, rfl, rfl, rfl, rfl, trivial⟩⟩ hm)
   ·refine au 5 rfl ?_
    obtain ⟨l37, nl37, hl, s⟩ := s
    have f38 := hl
    obtain ⟨s39, s40, s41, hl, s⟩ := s
    have f42 := hl
    refine Run.drawM (fun h' => CellsAt B h' ⟨k10, 0, none⟩ 0 l37 ∧ CellsAt B h' ⟨k12, 0, none⟩ 0 [(.string s39), (.string s40), (.string s41)] ∧ True) [3] ⟨[0, 0, 1, 7], [15, 15, 14, 13], [0, 0, 1, 7], 8⟩ (.q 0 (.q 1 (.x 2 (.x 3 .nil .no) .no))) TF.mixed (by kernel_rfl) ⟨f38, f42, trivial⟩ ?_
    refine zq rfl (fun _ hC => sem_loadN ⟨k10, 0, none⟩ l37 rfl TF.agg_55 (TF.sz_55.trans (congrArg some nl37.symm)) hC.1 ⟨rfl, rfl⟩) ?_
    refine zq rfl (fun _ hC => sem_loadN ⟨k12, 0, none⟩ [(.string s39), (.string s40), (.string s41)] rfl TF.agg_56 TF.sz_56 hC.2.1 ⟨rfl, rfl⟩) ?_
    obtain ⟨hln, h43, hst, s⟩ := s
    refine ⟨zo0 rfl (sem_storeN ⟨k6, 0, none⟩ l37 h43 rfl rfl (TF.sz_55.trans (congrArg some hln.symm)) hst ?_), trivial⟩
    obtain ⟨g44, g45, s⟩ := s
    refine ⟨fun _ => ⟨g44, g45, trivial⟩, ?_⟩
    obtain ⟨h46, hst, s⟩ := s
    refine ⟨zo0 rfl (sem_storeN ⟨k8, 0, none⟩ [(.string s39), (.string s40), (.string s41)] h46 rfl rfl TF.sz_56 hst ?_), trivial⟩
    refine ⟨fun hz => Bool.noConfusion hz, ?_⟩
    obtain ⟨l47, hln0, hl0, s⟩ := s
    obtain ⟨s48, s49, s50, hl1, s⟩ := s
    exact zr (⟨⟨k6, 0, none⟩, (.agg (List.toArray l47)), rfl, loadHN TF.agg_55 (TF.sz_55.trans (congrArg some hln0.symm)) hl0, ⟨⟨k8, 0, none⟩, (.agg #[(.string s48), (.string s49), (.string s50)]), rfl, loadHN TF.agg_56 TF.sz_56 hl1, s.imp fun _ q => ⟨_, _, _, _, rfl, q⟩⟩⟩)
  refine au 5 rfl ?_
  obtain ⟨J56, m54, h0, s⟩ := s
  refine Run.of_fin (h0.imp fun h' h0 => ?_)
  refine Run.loop (σ := Int × Nat) (fun x e h => J56 x.1 x.2 h ∧ Agree [(0, (.pointer p1)), (2, (.pointer (some ⟨k6, 0, none⟩))), (3, (.pointer (some ⟨k8, 0, none⟩))), (4, (.pointer (some ⟨k10, 0, none⟩))), (5, (.pointer (some ⟨k12, 0, none⟩))), (27, (.int .i64 (x.1)))] e) (fun x => x.2) ((0), m54) ⟨h0, ⟨rfl, rfl, rfl, rfl, rfl, rfl, trivial⟩⟩ ?_; clear h0
  rintro ⟨i51, m53⟩ e h52 ⟨hJ, hag⟩ ih55
  have s := s i51 m53 h52 hJ; clear hJ
  refine Run.env hag ?_; clear hag
  refine au 2 rfl ?_
  refine zt s rfl rfl rfl binI_lss_t binI_lss_f (fun s => ?_) fun s => ?_
  ·refine au 14 rfl ?_
   refine znil s rfl rfl fun A57 s => ?_
   refine au 1 rfl ?_
   refine zl s rfl rfl TF.agg_40 fun p59 s => ?_
   refine au 1 rfl ?_
   refine zcall s rfl rfl TF.goes_49 ?_
   rintro _ h60 ⟨b61, s62, i63, rfl, s⟩
   refine au 3 rfl ?_
   refine zal s rfl TF.zero_119 rfl fun k64 h65 s => ?_
   refine zsn s rfl rfl rfl TF.sz_119 rfl fun h66 s => ?_
   refine au 4 rfl ?_
   obtain ⟨b67, s68, hl, s⟩ := s
   refine zn hl rfl rfl TF.agg_119 TF.sz_119 rfl ?_
   refine au 1 rfl ?_
   obtain ⟨hi0, hi1, s⟩ := s
   refine zg rfl (sem_indexAddrA ⟨k10, 8, none⟩ .i64 (i51) rfl rfl TF.arr_52 hi0 hi1 ?_)
   refine zsn s rfl rfl rfl TF.sz_51 rfl fun h69 s => ?_
   refine au 6 rfl ?_
   exact Run.of_fin (s.imp fun h' ⟨m', hm, s⟩ => ih55 ((IntKind.wrap .i64 ((i51) + (1))), m') _ _ ⟨s, ⟨rfl, rfl, rfl, rfl, rfl, rfl, trivial⟩⟩ hm)
  ·refine au 4 rfl ?_
   exact Run.of_fin (s.imp fun h' s => j16 _ _ ⟨⟨rfl, rfl, rfl, rfl, rfl, trivial⟩, s⟩)
 refine au 5 rfl ?_
 obtain ⟨J75, m73, h0, s⟩ := s
 refine Run.of_fin (h0.imp fun h' h0 => ?_)
 refine Run.loop (σ := Int × Nat) (fun x e h => J75 x.1 x.2 h ∧ Agree [(0, (.pointer p1)), (2, (.pointer (some ⟨k6, 0, none⟩))), (3, (.pointer (some ⟨k8, 0, none⟩))), (4, (.pointer (some ⟨k10, 0, none⟩))), (5, (.pointer (some ⟨k12, 0, none⟩))), (11, (.int .i64 (x.1)))] e) (fun x => x.2) ((0), m73) ⟨h0, ⟨rfl, rfl, rfl, rfl, rfl, rfl, trivial⟩⟩ ?_; clear h0
 rintro ⟨i70, m72⟩ e h71 ⟨hJ, hag⟩ ih74
 have s := s i70 m72 h71 hJ; clear hJ
 refine Run.env hag ?_; clear hag
 refine au 2 rfl ?_
 refine zt s rfl rfl rfl binI_lss_t binI_lss_f (fun s => ?_) fun s => ?_
 ·refine au 14 rfl ?_
  refine znil s rfl rfl fun A76 s => ?_
  refine au 1 rfl ?_
  refine zl s rfl rfl TF.agg_39 fun p78 s => ?_
  refine au 1 rfl ?_
  refine zcall s rfl rfl TF.goes_41 ?_
  rintro _ h79 ⟨i80, i81, rfl, s⟩
  refine au 4 rfl ?_
  obtain ⟨hi0, hi1, s⟩ := s
  refine zg rfl (sem_indexAddrA ⟨k10, 0, none⟩ .i64 (i70) rfl rfl TF.arr_49 hi0 hi1 ?_)
  refine zs1 s rfl rfl rfl rfl TF.sz_3 fun h82 s => ?_
  refine au 6 rfl ?_
  exact Run.of_fin (s.imp fun h' ⟨m', hm, s⟩ => ih74 ((IntKind.wrap .i64 ((i70) + (1))), m') _ _ ⟨s, ⟨rfl, rfl, rfl, rfl, rfl, rfl, trivial⟩⟩ hm)
 ·refine au 4 rfl ?_
  exact Run.of_fin (s.imp fun h' s => j14 _ _ ⟨⟨rfl, rfl, rfl, rfl, rfl, trivial⟩, s⟩)
theorem C_countermandlaw20_does.of {B : RO} {p1 : Option Addr} {i2 : Int} {i3 : Int} {i4 : Int} {i5 : Int} {h : Heap} {Q : Int → Int → Heap → Prop} (s : S_countermandlaw20_does B p1 i2 i3 i4 i5 h Q) : C_countermandlaw20_does B p1 i2 i3 i4 i5 h Q := by
 refine zspec Tryz.func17 [ResultVar.tmp 4, ResultVar.tmp 5] rfl rfl rfl rfl rfl ?_
 refine au 2 rfl ?_
 refine zbn s rfl rfl rfl fun k8 h9 s => ?_
 refine au 7 rfl ?_
 refine zl s rfl rfl TF.agg_3 fun i10 s => ?_
 refine au 4 rfl ?_
 refine zt s rfl rfl rfl binI_eql_t binI_eql_f (fun s => ?_) fun s => ?_
 ·refine au 7 rfl ?_
  refine zl s rfl rfl TF.agg_3 fun i11 s => ?_
  refine zcall s rfl rfl TF.goes_11 ?_
  rintro _ h12 ⟨i13, i14, rfl, s⟩
  refine au 5 rfl ?_
  exact zr (s.imp fun _ q => ⟨_, _, rfl, q⟩)
 ·refine au 5 rfl ?_
  refine zt s rfl rfl rfl binI_eql_t binI_eql_f (fun s => ?_) fun s => ?_
  ·refine au 7 rfl ?_
   refine zl s rfl rfl TF.agg_3 fun i15 s => ?_
   refine au 1 rfl ?_
   refine zl s rfl rfl TF.agg_3 fun i16 s => ?_
   refine zcall s rfl rfl TF.goes_21 ?_
   rintro _ h17 ⟨i18, rfl, s⟩
   refine au 3 rfl ?_
   exact zr (s.imp fun _ q => ⟨_, _, rfl, q⟩)
  ·refine au 5 rfl ?_
   refine zt s rfl rfl rfl binI_eql_t binI_eql_f (fun s => ?_) fun s => ?_
   ·refine au 7 rfl ?_
    refine zl s rfl rfl TF.agg_3 fun i19 s => ?_
    refine au 1 rfl ?_
    refine zl s rfl rfl TF.agg_3 fun i20 s => ?_
    refine zcall s rfl rfl TF.goes_51 ?_
    rintro _ h21 ⟨i22, i23, rfl, s⟩
    refine au 5 rfl ?_
    exact zr (s.imp fun _ q => ⟨_, _, rfl, q⟩)
   ·refine au 5 rfl ?_
    refine zt s rfl rfl rfl binI_eql_t binI_eql_f (fun s => ?_) fun s => ?_
    ·refine au 7 rfl ?_
     refine zl s rfl rfl TF.agg_3 fun i24 s => ?_
     refine au 1 rfl ?_
     refine zl s rfl rfl TF.agg_3 fun i25 s => ?_
     refine au 1 rfl ?_
     refine zl s rfl rfl TF.agg_5 fun i26 s => ?_
     refine zcall s rfl rfl TF.goes_52 ?_
     rintro _ h27 ⟨i28, rfl, s⟩
     refine au 3 rfl ?_
     exact zr (s.imp fun _ q => ⟨_, _, rfl, q⟩)
    ·refine au 5 rfl ?_
     refine zt s rfl rfl rfl binI_eql_t binI_eql_f (fun s => ?_) fun s => ?_
     ·refine au 7 rfl ?_
      refine zl s rfl rfl TF.agg_3 fun i29 s => ?_
      refine zcall s rfl rfl TF.goes_53 ?_
      rintro _ h30 ⟨i31, rfl, s⟩
      refine au 3 rfl ?_
      exact zr (s.imp fun _ q => ⟨_, _, rfl, q⟩)
     ·refine au 5 rfl ?_
      refine zt s rfl rfl rfl binI_eql_t binI_eql_f (fun s => ?_) fun s => ?_
      ·refine au 7 rfl ?_
       refine zl s rfl rfl TF.agg_3 fun i32 s => ?_
       refine zcall s rfl rfl TF.goes_54 ?_
       rintro _ h33 ⟨i34, rfl, s⟩
       refine au 3 rfl ?_
       exact zr (s.imp fun _ q => ⟨_, _, rfl, q⟩)
      ·refine au 5 rfl ?_
       refine zt s rfl rfl rfl binI_eql_t binI_eql_f (fun s => ?_) fun s => ?_
       ·refine au 7 rfl ?_
        refine zl s rfl rfl TF.agg_3 fun i35 s => ?_
        refine au 1 rfl ?_
        refine zl s rfl rfl TF.agg_3 fun i36 s => ?_
        refine zcall s rfl rfl TF.goes_55 ?_
        rintro _ h37 ⟨i38, rfl, s⟩
        refine au 3 rfl ?_
        exact zr (s.imp fun _ q => ⟨_, _, rfl, q⟩)
       ·refine au 5 rfl ?_
        refine zt s rfl rfl rfl binI_eql_t binI_eql_f (fun s => ?_) fun s => ?_
        ·refine au 7 rfl ?_
         refine zl s rfl rfl TF.agg_3 fun i39 s => ?_
         refine au 1 rfl ?_
         refine zl s rfl rfl TF.agg_3 fun i40 s => ?_
         refine zcall s rfl rfl TF.goes_56 ?_
         rintro _ h41 ⟨i42, rfl, s⟩
         refine au 3 rfl ?_
         exact zr (s.imp fun _ q => ⟨_, _, rfl, q⟩)
        ·refine au 5 rfl ?_
         refine zt s rfl rfl rfl binI_eql_t binI_eql_f (fun s => ?_) fun s => ?_
         ·refine au 7 rfl ?_
          refine zl s rfl rfl TF.agg_3 fun i43 s => ?_
          refine zcall s rfl rfl TF.goes_57 ?_
          rintro _ h44 ⟨i45, i46, rfl, s⟩
          refine au 5 rfl ?_
          exact zr (s.imp fun _ q => ⟨_, _, rfl, q⟩)
         ·refine au 10 rfl ?_
          exact zr (s.imp fun _ q => ⟨_, _, rfl, q⟩)
theorem C_feed_Feed_Arrive.of {B : RO} {p1 : Option Addr} {i2 : Int} {s3 : ByteArray} {h : Heap} {Q : Int → Heap → Prop} (s : S_feed_Feed_Arrive B p1 i2 s3 h Q) : C_feed_Feed_Arrive B p1 i2 s3 h Q := by
 refine zspec Tryz.func18 [ResultVar.tmp 6] rfl rfl rfl rfl rfl ?_
 refine au 4 rfl ?_
 refine Run.seqJ (fun e h6 => Agree [(0, (.pointer p1)), (1, (.int .i64 (i2))), (2, (.string s3))] e ∧ S_feed_Feed_Arrive_J1 B p1 i2 s3 h6 Q) ?_ fun j5 => ?_
 ·rintro e h6 ⟨hag, s⟩
  refine Run.env hag ?_; clear hag
  refine au 1 rfl ?_
  refine Run.drawM (fun h' => h' = h6) [11] ⟨[0, 0, 1, 4, 10, 16, 0, 96, 1, 256, 767, 1279], [4095, 4095, 4094, 4091, 4085, 4079, 4095, 3999, 4094, 3839, 3581, 2943], [0, 0, 1, 5, 15, 31, 0, 127, 1, 257, 1023, 2047], 2048⟩ (.q 0 (.q 1 (.q 2 (.q 3 (.q 4 (.q 5 (.q 6 (.q 7 (.q 8 (.q 9 (.q 10 (.x 11 .nil .no)))))))))))) TF.mixed (by kernel_rfl) rfl ?_
  refine auT 2 rfl ?_
  obtain ⟨A7, e8, s⟩ := s
  refine zqe rfl (sem_nilCheck A7 (congrArg Value.pointer e8) ⟨rfl, rfl⟩) ?_
  refine auT 1 rfl ?_
  obtain ⟨hi0, hi1, s⟩ := s
  refine zqe rfl (sem_indexAddrA A7 .i64 (i2) rfl rfl TF.arr_56 hi0 hi1 ⟨rfl, rfl⟩) ?_
  obtain ⟨s9, hl, s⟩ := s
  refine zqe rfl (sem_load1 (Addr.add A7 (Int.toNat (i2) * 1)) ((.string s9)) rfl TF.agg_9 hl ⟨rfl, rfl⟩) ?_
  refine auT 1 rfl ?_
  obtain ⟨hi0, s⟩ := s
  refine zqe rfl (sem_strAdd s9 s3 rfl rfl hi0 ⟨rfl, rfl⟩) ?_
  obtain ⟨A10, e11, s⟩ := s
  refine zqe rfl (sem_nilCheck A10 (congrArg Value.pointer e11) ⟨rfl, rfl⟩) ?_
  refine auT 1 rfl ?_
  obtain ⟨hi0, hi1, s⟩ := s
  refine zqe rfl (sem_indexAddrA A10 .i64 (i2) rfl rfl TF.arr_56 hi0 hi1 ⟨rfl, rfl⟩) ?_
  obtain ⟨h12, hst, s⟩ := s
  refine ⟨zo0 rfl (sem_store1 (Addr.add A10 (Int.toNat (i2) * 1)) ((.string (s9 ++ s3))) h12 rfl rfl rfl TF.sz_9 hst ?_), trivial⟩
  refine ⟨fun hz => Bool.noConfusion hz, ?_⟩
  refine au 4 rfl ?_
  exact zr (s.imp fun _ q => ⟨_, rfl, q⟩)
 refine au 4 rfl ?_
 by_cases hb13 : p1 = none
 ·replace s := s.1 hb13
  refine zg rfl (sem_ptrNilT p1 (.inl rfl) true rfl rfl TF.ptr_41 hb13 rfl ?_)
  refine au 7 rfl ?_
  exact zr (s.imp fun _ q => ⟨_, rfl, q⟩)
 ·replace s := s.2 hb13
  refine zg rfl (sem_ptrNilF p1 (.inl rfl) false rfl rfl TF.ptr_41 hb13 rfl ?_)
  refine au 7 rfl ?_
  refine zcall s rfl rfl TF.goes_58 ?_
  rintro _ h14 ⟨b15, rfl, s⟩
  cases b15
  ·replace s := s.2 rfl
   refine au 8 rfl ?_
   exact zr (s.imp fun _ q => ⟨_, rfl, q⟩)
  ·replace s := s.1 rfl
   refine au 7 rfl ?_
   refine zg rfl (sem_lenStr s3 rfl TF.isStr_9 ?_)
   refine au 2 rfl ?_
   refine znil s rfl rfl fun A16 s => ?_
   refine au 1 rfl ?_
   obtain ⟨hi0, hi1, s⟩ := s
   refine zg rfl (sem_indexAddrA A16 .i64 (i2) rfl rfl TF.arr_56 hi0 hi1 ?_)
   refine zl s rfl rfl TF.agg_9 fun s18 s => ?_
   refine zg rfl (sem_lenStr s18 rfl TF.isStr_9 ?_)
   refine au 1 rfl ?_
   refine zt s rfl rfl rfl binI_gtr_t binI_gtr_f (fun s => ?_) fun s => ?_
   ·refine au 7 rfl ?_
    exact zr (s.imp fun _ q => ⟨_, rfl, q⟩)
   ·refine au 5 rfl ?_
    exact Run.of_fin (s.imp fun h' s => j5 _ _ ⟨⟨rfl, rfl, rfl, trivial⟩, s⟩)
theorem C_attempt_View_Now.of {B : RO} {p1 : Option Addr} {h : Heap} {Q : List Value → Heap → Prop} (s : S_attempt_View_Now B p1 h Q) : C_attempt_View_Now B p1 h Q := by
 refine zspec Tryz.func20 [ResultVar.cell 2 65] rfl rfl rfl rfl rfl ?_
 refine au 2 rfl ?_
 refine zal s rfl TF.zero_65 rfl fun k3 h4 s => ?_
 refine au 5 rfl ?_
 by_cases hb5 : p1 = none
 ·replace s := s.1 hb5
  refine zg rfl (sem_ptrNilT p1 (.inl rfl) true rfl rfl TF.ptr_29 hb5 rfl ?_)
  refine au 4 rfl ?_
  refine zg rfl (sem_buildSL [] (List.replicate 25 (.int .i64 (0))) TF.zero_65 TF.places_65 rfl rfl ?_)
  refine zsn s rfl rfl rfl TF.sz_65 rfl fun h6 s => ?_
  refine au 1 rfl ?_
  obtain ⟨l7, hln0, hl0, s⟩ := s
  exact zr (⟨⟨k3, 0, none⟩, (.agg (List.toArray l7)), rfl, loadHN TF.agg_65 (TF.sz_65.trans (congrArg some hln0.symm)) hl0, s.imp fun _ q => ⟨_, rfl, q⟩⟩)
 ·replace s := s.2 hb5
  refine zg rfl (sem_ptrNilF p1 (.inl rfl) false rfl rfl TF.ptr_29 hb5 rfl ?_)
  refine au 6 rfl ?_
  refine znil s rfl rfl fun A8 s => ?_
  refine au 1 rfl ?_
  refine zl s rfl rfl TF.agg_3 fun i10 s => ?_
  refine zg rfl (sem_buildSL [(1, (.int .i64 (i10)))] [(.int .i64 (0)), (.int .i64 (0)), (.int .i64 (0)), (.int .i64 (0)), (.int .i64 (0)), (.int .i64 (0)), (.int .i64 (0)), (.int .i64 (0)), (.int .i64 (0)), (.int .i64 (0)), (.int .i64 (0)), (.int .i64 (0)), (.int .i64 (0)), (.int .i64 (0)), (.int .i64 (0)), (.int .i64 (0)), (.int .i64 (0)), (.int .i64 (0)), (.int .i64 (0)), (.int .i64 (0)), (.int .i64 (0)), (.int .i64 (0)), (.int .i64 (0)), (.int .i64 (0)), (.int .i64 (i10))] TF.zero_65 TF.places_65 rfl rfl ?_)
  refine zal s rfl TF.zero_65 rfl fun k11 h12 s => ?_
  refine zsn s rfl rfl rfl TF.sz_65 rfl fun h13 s => ?_
  refine au 1 rfl ?_
  refine Run.seqJ (fun e h15 => Agree [(0, (.pointer p1)), (2, (.pointer (some ⟨k3, 0, none⟩))), (3, (.pointer (some ⟨k11, 0, none⟩)))] e ∧ S_attempt_View_Now_J1 B p1 k3 k11 h15 Q) ?_ fun j14 => ?_
  ·rintro e h15 ⟨hag, s⟩
   refine Run.env hag ?_; clear hag
   refine Run.seqJ (fun e h17 => Agree [(0, (.pointer p1)), (2, (.pointer (some ⟨k3, 0, none⟩))), (3, (.pointer (some ⟨k11, 0, none⟩)))] e ∧ S_attempt_View_Now_J2 B p1 k3 k11 h17 Q) ?_ fun j16 => ?_
   ·rintro e h17 ⟨hag, s⟩
    refine Run.env hag ?_; clear hag
    refine au 6 rfl ?_
    obtain ⟨J23, m21, h0, s⟩ := s
    refine Run.of_fin (h0.imp fun h' h0 => ?_)
    refine Run.loop (σ := Int × Nat) (fun x e h => J23 x.1 x.2 h ∧ Agree [(0, (.pointer p1)), (2, (.pointer (some ⟨k3, 0, none⟩))), (3, (.pointer (some ⟨k11, 0, none⟩))), (46, (.int .i64 (x.1)))] e) (fun x => x.2) ((0), m21) ⟨h0, ⟨rfl, rfl, rfl, rfl, trivial⟩⟩ ?_; clear h0
    rintro ⟨i18, m20⟩ e h19 ⟨hJ, hag⟩ ih22
    have s := s i18 m20 h19 hJ; clear hJ
    refine Run.env hag ?_; clear hag
    refine au 2 rfl ?_
    refine zt s rfl rfl rfl binI_lss_t binI_lss_f (fun s => ?_) fun s => ?_
    ·refine au 14 rfl ?_
     refine znil s rfl rfl fun A24 s => ?_
     refine au 1 rfl ?_
     refine zl s rfl rfl TF.agg_41 fun p26 s => ?_
     refine au 1 rfl ?_
     refine zcall s rfl rfl TF.goes_47 ?_
     rintro _ h27 ⟨i28, i29, rfl, s⟩
     refine au 4 rfl ?_
     obtain ⟨hi0, hi1, s⟩ := s
     refine zg rfl (sem_indexAddrA ⟨k11, 0, none⟩ .i64 (2) rfl rfl TF.arr_63 hi0 hi1 ?_)
     obtain ⟨hi0, hi1, s⟩ := s
     refine zg rfl (sem_indexAddrA ⟨k11, 16, none⟩ .i64 (i18) rfl rfl TF.arr_49 hi0 hi1 ?_)
     refine zs1 s rfl rfl rfl rfl TF.sz_3 fun h30 s => ?_
     refine au 6 rfl ?_
     exact Run.of_fin (s.imp fun h' ⟨m', hm, s⟩ => ih22 ((IntKind.wrap .i64 ((i18) + (1))), m') _ _ ⟨s, ⟨rfl, rfl, rfl, rfl, trivial⟩⟩ hm)
    ·refine au 6 rfl ?_
     obtain ⟨l31, nl31, hl, s⟩ := s
     refine zg rfl (sem_loadN ⟨k11, 0, none⟩ l31 rfl TF.agg_65 (TF.sz_65.trans (congrArg some nl31.symm)) hl ?_)
     obtain ⟨hln, h32, hst, s⟩ := s
     refine zg0 rfl (sem_storeN ⟨k3, 0, none⟩ l31 h32 rfl rfl (TF.sz_65.trans (congrArg some hln.symm)) hst ?_)
     refine au 1 rfl ?_
     obtain ⟨l33, hln0, hl0, s⟩ := s
     exact zr (⟨⟨k3, 0, none⟩, (.agg (List.toArray l33)), rfl, loadHN TF.agg_65 (TF.sz_65.trans (congrArg some hln0.symm)) hl0, s.imp fun _ q => ⟨_, rfl, q⟩⟩)
   refine au 5 rfl ?_
   obtain ⟨J39, m37, h0, s⟩ := s
   refine Run.of_fin (h0.imp fun h' h0 => ?_)
   refine Run.loop (σ := Int × Nat) (fun x e h => J39 x.1 x.2 h ∧ Agree [(0, (.pointer p1)), (2, (.pointer (some ⟨k3, 0, none⟩))), (3, (.pointer (some ⟨k11, 0, none⟩))), (29, (.int .i64 (x.1)))] e) (fun x => x.2) ((0), m37) ⟨h0, ⟨rfl, rfl, rfl, rfl, trivial⟩⟩ ?_; clear h0
   rintro ⟨i34, m36⟩ e h35 ⟨hJ, hag⟩ ih38
   have s := s i34 m36 h35 hJ; clear hJ
   refine Run.env hag ?_; clear hag
   refine au 2 rfl ?_
   refine zt s rfl rfl rfl binI_lss_t binI_lss_f (fun s => ?_) fun s => ?_
   ·refine au 14 rfl ?_
    refine znil s rfl rfl fun A40 s => ?_
    refine au 1 rfl ?_
    refine zl s rfl rfl TF.agg_40 fun p42 s => ?_
    refine au 1 rfl ?_
    refine zcall s rfl rfl TF.goes_49 ?_
    rintro _ h43 ⟨b44, s45, i46, rfl, s⟩
    refine au 4 rfl ?_
    obtain ⟨hi0, hi1, s⟩ := s
    refine zg rfl (sem_indexAddrA ⟨k11, 0, none⟩ .i64 (1) rfl rfl TF.arr_63 hi0 hi1 ?_)
    obtain ⟨hi0, hi1, s⟩ := s
    refine zg rfl (sem_indexAddrA ⟨k11, 8, none⟩ .i64 (i34) rfl rfl TF.arr_49 hi0 hi1 ?_)
    refine zs1 s rfl rfl rfl rfl TF.sz_3 fun h47 s => ?_
    refine au 6 rfl ?_
    exact Run.of_fin (s.imp fun h' ⟨m', hm, s⟩ => ih38 ((IntKind.wrap .i64 ((i34) + (1))), m') _ _ ⟨s, ⟨rfl, rfl, rfl, rfl, trivial⟩⟩ hm)
   ·refine au 4 rfl ?_
    exact Run.of_fin (s.imp fun h' s => j16 _ _ ⟨⟨rfl, rfl, rfl, trivial⟩, s⟩)
  refine au 5 rfl ?_
  obtain ⟨J53, m51, h0, s⟩ := s
  refine Run.of_fin (h0.imp fun h' h0 => ?_)
  refine Run.loop (σ := Int × Nat) (fun x e h => J53 x.1 x.2 h ∧ Agree [(0, (.pointer p1)), (2, (.pointer (some ⟨k3, 0, none⟩))), (3, (.pointer (some ⟨k11, 0, none⟩))), (15, (.int .i64 (x.1)))] e) (fun x => x.2) ((0), m51) ⟨h0, ⟨rfl, rfl, rfl, rfl, trivial⟩⟩ ?_; clear h0
  rintro ⟨i48, m50⟩ e h49 ⟨hJ, hag⟩ ih52
  have s := s i48 m50 h49 hJ; clear hJ
  refine Run.env hag ?_; clear hag
  refine au 2 rfl ?_
  refine zt s rfl rfl rfl binI_lss_t binI_lss_f (fun s => ?_) fun s => ?_
  ·refine au 14 rfl ?_
   refine znil s rfl rfl fun A54 s => ?_
   refine au 1 rfl ?_
   refine zl s rfl rfl TF.agg_39 fun p56 s => ?_
   refine au 1 rfl ?_
   refine zcall s rfl rfl TF.goes_65 ?_
   rintro _ h57 ⟨i58, rfl, s⟩
   refine au 1 rfl ?_
   obtain ⟨hi0, hi1, s⟩ := s
   refine zg rfl (sem_indexAddrA ⟨k11, 0, none⟩ .i64 (0) rfl rfl TF.arr_63 hi0 hi1 ?_)
   obtain ⟨hi0, hi1, s⟩ := s
   refine zg rfl (sem_indexAddrA ⟨k11, 0, none⟩ .i64 (i48) rfl rfl TF.arr_49 hi0 hi1 ?_)
   refine zs1 s rfl rfl rfl rfl TF.sz_3 fun h59 s => ?_
   refine au 6 rfl ?_
   exact Run.of_fin (s.imp fun h' ⟨m', hm, s⟩ => ih52 ((IntKind.wrap .i64 ((i48) + (1))), m') _ _ ⟨s, ⟨rfl, rfl, rfl, rfl, trivial⟩⟩ hm)
  ·refine au 4 rfl ?_
   exact Run.of_fin (s.imp fun h' s => j14 _ _ ⟨⟨rfl, rfl, rfl, trivial⟩, s⟩)
theorem C_attempt_Attempt_Store.of {B : RO} {p1 : Option Addr} {i2 : Int} {i3 : Int} {h : Heap} {Q : Int → Heap → Prop} (s : S_attempt_Attempt_Store B p1 i2 i3 h Q) : C_attempt_Attempt_Store B p1 i2 i3 h Q := by
 refine zspec Tryz.func21 [ResultVar.tmp 6] rfl rfl rfl rfl rfl ?_
 refine au 4 rfl ?_
 refine Run.seqJ (fun e h6 => Agree [(0, (.pointer p1)), (1, (.int .i64 (i2))), (2, (.int .i64 (i3)))] e ∧ S_attempt_Attempt_Store_J1 B p1 i2 i3 h6 Q) ?_ fun j5 => ?_
 ·rintro e h6 ⟨hag, s⟩
  refine Run.env hag ?_; clear hag
  refine au 3 rfl ?_
  refine znil s rfl rfl fun A7 s => ?_
  refine au 2 rfl ?_
  refine zl s rfl rfl TF.agg_91 fun p9 s => ?_
  refine au 2 rfl ?_
  refine zcall s rfl rfl TF.goes_66 ?_
  rintro _ h10 ⟨b11, rfl, s⟩
  refine au 5 rfl ?_
  exact zr (s.imp fun _ q => ⟨_, rfl, q⟩)
 refine au 4 rfl ?_
 by_cases hb12 : p1 = none
 ·replace s := s.1 hb12
  refine zg rfl (sem_ptrNilT p1 (.inl rfl) true rfl rfl TF.ptr_30 hb12 rfl ?_)
  refine au 7 rfl ?_
  exact zr (s.imp fun _ q => ⟨_, rfl, q⟩)
 ·replace s := s.2 hb12
  refine zg rfl (sem_ptrNilF p1 (.inl rfl) false rfl rfl TF.ptr_30 hb12 rfl ?_)
  refine au 6 rfl ?_
  refine zt s rfl rfl rfl binI_lss_t binI_lss_f (fun s => ?_) fun s => ?_
  ·refine au 11 rfl ?_
   exact zr (s.imp fun _ q => ⟨_, rfl, q⟩)
  ·refine au 2 rfl ?_
   refine zt s rfl rfl rfl binI_geq_t binI_geq_f (fun s => ?_) fun s => ?_
   ·refine au 8 rfl ?_
    exact zr (s.imp fun _ q => ⟨_, rfl, q⟩)
   ·refine au 6 rfl ?_
    exact Run.of_fin (s.imp fun h' s => j5 _ _ ⟨⟨rfl, rfl, rfl, trivial⟩, s⟩)
theorem C_attempt_NewView.of {B : RO} {h : Heap} {Q : Option Addr → Heap → Prop} (s : S_attempt_NewView B h Q) : C_attempt_NewView B h Q := by
 refine zspec Tryz.func24 [ResultVar.tmp 0] rfl rfl rfl rfl rfl ?_
 refine au 6 rfl ?_
 refine zcall s rfl rfl TF.goes_67 ?_
 rintro _ h2 ⟨p3, rfl, s⟩
 refine zcall s rfl rfl TF.goes_68 ?_
 rintro _ h4 ⟨p5, rfl, s⟩
 refine zcall s rfl rfl TF.goes_69 ?_
 rintro _ h6 ⟨p7, rfl, s⟩
 refine zg rfl (sem_buildSL [(0, (.pointer p3)), (1, (.pointer p5)), (2, (.pointer p7))] [(.pointer p3), (.pointer p5), (.pointer p7), (.int .i64 (0))] TF.zero_43 TF.places_43 rfl rfl ?_)
 refine zbn s rfl rfl rfl fun k8 h9 s => ?_
 refine au 2 rfl ?_
 exact zr (s.imp fun _ q => ⟨_, rfl, q⟩)
theorem C_attempt_New.of {B : RO} {p1 : Option Addr} {i2 : Int} {i3 : Int} {i4 : Int} {i5 : Int} {h : Heap} {Q : Option Addr → Heap → Prop} (s : S_attempt_New B p1 i2 i3 i4 i5 h Q) : C_attempt_New B p1 i2 i3 i4 i5 h Q := by
 refine zspec Tryz.func25 [ResultVar.tmp 4] rfl rfl rfl rfl rfl ?_
 refine au 2 rfl ?_
 refine zbn s rfl rfl rfl fun k7 h8 s => ?_
 refine au 2 rfl ?_
 refine Run.seqJ (fun e h11 => ∃ p10 : Option Addr, Agree [(0, (.pointer p10)), (3, (.pointer (some ⟨k7, 0, none⟩)))] e ∧ S_attempt_New_J1 B k7 p10 h11 Q) ?_ fun j9 => ?_
 ·rintro e h11 ⟨p10, hag, s⟩
  refine Run.env hag ?_; clear hag
  refine au 1 rfl ?_
  obtain ⟨A14, e15, s⟩ := s
  obtain ⟨i18, hl, s⟩ := s
  have f19 := hl
  obtain ⟨i20, i21, i22, i23, hl, s⟩ := s
  have f24 := hl
  refine Run.drawM (fun h' => cellH B h' (Addr.add A14 3) = some (.int .i64 (i18)) ∧ CellsAt B h' ⟨k7, 0, none⟩ 0 [(.int .i64 (i20)), (.int .i64 (i21)), (.int .i64 (i22)), (.int .i64 (i23))] ∧ True) [] ⟨[0, 0, 2, 4, 8, 16, 0, 96, 0, 256, 0, 1024, 2721, 4096, 16383], [32767, 32767, 32765, 32763, 32759, 32751, 32767, 32703, 32767, 32511, 32767, 31743, 30046, 28671, 24575], [0, 0, 0, 0, 0, 0, 0, 0, 0, 0, 0, 0, 0, 0, 0], 0⟩ (.q 0 (.q 1 (.q 2 (.q 3 (.q 4 (.q 6 (.q 8 (.q 10 (.x 5 (.x 7 (.x 9 (.x 11 (.q 12 (.x 13 (.q 14 .nil) .no)) .no) (.x 11 (.x 9 (.q 12 (.x 13 (.q 14 .nil) .no)) .no) .no)) (.x 9 (.x 7 (.x 11 (.q 12 (.x 13 (.q 14 .nil) .no)) .no) (.x 11 (.x 7 (.q 12 (.x 13 (.q 14 .nil) .no)) .no) .no)) (.x 11 (.x 7 (.x 9 (.q 12 (.x 13 (.q 14 .nil) .no)) .no) (.x 9 (.x 7 (.q 12 (.x 13 (.q 14 .nil) .no)) .no) .no)) .no))) (.x 9 (.x 5 (.x 7 (.x 11 (.q 12 (.x 13 (.q 14 .nil) .no)) .no) (.x 11 (.x 7 (.q 12 (.x 13 (.q 14 .nil) .no)) .no) .no)) (.x 11 (.x 5 (.x 7 (.q 12 (.x 13 (.q 14 .nil) .no)) .no) .no) .no)) (.x 11 (.x 5 (.x 7 (.x 9 (.q 12 (.x 13 (.q 14 .nil) .no)) .no) (.x 9 (.x 7 (.q 12 (.x 13 (.q 14 .nil) .no)) .no) .no)) (.x 9 (.x 5 (.x 7 (.q 12 (.x 13 (.q 14 .nil) .no)) .no) .no) .no)) .no))))))))))) TF.mixed (by kernel_rfl) ⟨f19, f24, trivial⟩ ?_
  refine auT 2 rfl ?_
  refine zq rfl (fun _ hC => sem_nilCheck A14 (congrArg Value.pointer e15) ⟨rfl, rfl⟩) ?_
  refine auT 1 rfl ?_
  refine zq rfl (fun _ hC => sem_load1 (Addr.add A14 3) ((.int .i64 (i18))) rfl TF.agg_3 hC.1 ⟨rfl, rfl⟩) ?_
  refine zq rfl (fun _ hC => sem_loadN ⟨k7, 0, none⟩ [(.int .i64 (i20)), (.int .i64 (i21)), (.int .i64 (i22)), (.int .i64 (i23))] rfl TF.agg_26 TF.sz_26 hC.2.1 ⟨rfl, rfl⟩) ?_
  refine zq rfl (fun _ hC => sem_buildSL [] [(.slice none 0 0), (.slice none 0 0), (.slice none 0 0), (.slice none 0 0)] TF.zero_144 TF.places_144 rfl rfl ⟨rfl, rfl⟩) ?_
  refine zq rfl (fun _ hC => sem_buildSL [] [(.slice none 0 0)] TF.zero_147 TF.places_147 rfl rfl ⟨rfl, rfl⟩) ?_
  refine RunT.joinJ (t := (.q 12 (.x 13 (.q 14 .nil) .no))) (fun e h240 => ∃ p230 : Option Addr, ∃ p231 : Option Addr, ∃ p232 : Option Addr, ∃ p233 : Option Addr, ∃ i234 : Int, ∃ i235 : Int, ∃ i236 : Int, ∃ i237 : Int, ∃ A238 : Addr, ∃ A239 : Addr, Agree [(8, (.pointer p10)), (13, (.pointer p230)), (15, (.agg #[(.pointer p231), (.pointer p232), (.pointer p233), (.int .i64 (i234)), (.int .i64 (i235)), (.int .i64 (i236)), (.int .i64 (i237))])), (17, (.pointer (some A238))), (19, (.pointer (some A239)))] e ∧ cellH B h240 (Addr.add A14 3) = some (.int .i64 (i18)) ∧ CellsAt B h240 ⟨k7, 0, none⟩ 0 [(.int .i64 (i20)), (.int .i64 (i21)), (.int .i64 (i22)), (.int .i64 (i23))] ∧ S_attempt_New_J2 B k7 p10 A14 i18 i20 i21 i22 i23 p230 p231 p232 p233 i234 i235 i236 i237 A238 A239 h240 Q) ?_ fun j229 => ?_
  ·rintro e h240 ⟨p230, p231, p232, p233, i234, i235, i236, i237, A238, A239, hag, g241, g242, s⟩
   refine RunT.env hag ?_; clear hag
   refine zq rfl (fun _ _ => sem_buildSL [(0, (.pointer p10)), (1, (.pointer p230)), (2, (.agg #[(.pointer p231), (.pointer p232), (.pointer p233), (.int .i64 (i234)), (.int .i64 (i235)), (.int .i64 (i236)), (.int .i64 (i237))])), (3, (.pointer (some A238))), (4, (.pointer (some A239)))] [(.pointer p10), (.pointer p230), (.pointer p231), (.pointer p232), (.pointer p233), (.int .i64 (i234)), (.int .i64 (i235)), (.int .i64 (i236)), (.int .i64 (i237)), (.pointer (some A238)), (.pointer (some A239))] TF.zero_107 TF.places_107 rfl rfl ⟨rfl, rfl⟩) ?_
   refine ⟨zo rfl (sem_boxNN [(.pointer p10), (.pointer p230), (.pointer p231), (.pointer p232), (.pointer p233), (.int .i64 (i234)), (.int .i64 (i235)), (.int .i64 (i236)), (.int .i64 (i237)), (.pointer (some A238)), (.pointer (some A239))] rfl (fun k243 hb1 hb2 h244 hb3 => ?_)), trivial⟩
   have s := s k243 hb1 hb2 h244 hb3
   obtain ⟨g245, g246, s⟩ := s
   refine ⟨fun _ => ⟨g245, g246, trivial⟩, ?_⟩
   refine auT 1 rfl ?_
   exact zr (s.imp fun _ q => ⟨_, rfl, q⟩)
  refine ⟨?_, ?_, ?_, trivial⟩
  ·have s := s.1
   refine zo rfl (sem_callL [(.int .i64 (i18))] (TF.goes_70) rfl rfl (Spec.mono s fun v h247 hv => ?_))
   obtain ⟨p248, rfl, s⟩ := hv
   obtain ⟨g249, g250, s⟩ := s
   refine ⟨fun _ => ⟨g249, g250, trivial⟩, ?_⟩
   refine ⟨?_, ?_, ?_, trivial⟩
   ·have s := s.1
    refine zo rfl (sem_callL [(.agg #[(.int .i64 (i20)), (.int .i64 (i21)), (.int .i64 (i22)), (.int .i64 (i23))])] (TF.goes_71) rfl rfl (Spec.mono s fun v h251 hv => ?_))
    obtain ⟨p252, p253, p254, i255, i256, i257, i258, rfl, s⟩ := hv
    obtain ⟨g259, g260, s⟩ := s
    refine ⟨fun _ => ⟨g259, g260, trivial⟩, ?_⟩
    refine ⟨?_, ?_, trivial⟩
    ·have s := s.1
     refine zo rfl (sem_boxNN [(.slice none 0 0), (.slice none 0 0), (.slice none 0 0), (.slice none 0 0)] rfl (fun k261 hb1 hb2 h262 hb3 => ?_))
     have s := s k261 hb1 hb2 h262 hb3
     obtain ⟨g263, g264, s⟩ := s
     refine ⟨fun _ => ⟨g263, g264, trivial⟩, ?_⟩
     refine ⟨zo rfl (sem_boxNN [(.slice none 0 0)] rfl (fun k265 hb1 hb2 h266 hb3 => ?_)), trivial⟩
     have s := s k265 hb1 hb2 h266 hb3
     obtain ⟨g267, g268, s⟩ := s
     refine ⟨fun _ => ⟨g267, g268, trivial⟩, ?_⟩
     exact j229 _ _ ⟨p248, p252, p253, p254, (i255), (i256), (i257), (i258), ⟨k261, 0, none⟩, ⟨k265, 0, none⟩, ⟨rfl, rfl, rfl, rfl, rfl, trivial⟩, g267, g268, s⟩
    ·have s := s.2
     refine zo rfl (sem_boxNN [(.slice none 0 0)] rfl (fun k269 hb1 hb2 h270 hb3 => ?_))
     have s := s k269 hb1 hb2 h270 hb3
     obtain ⟨g271, g272, s⟩ := s
     refine ⟨fun _ => ⟨g271, g272, trivial⟩, ?_⟩
     refine ⟨zo rfl (sem_boxNN [(.slice none 0 0), (.slice none 0 0), (.slice none 0 0), (.slice none 0 0)] rfl (fun k273 hb1 hb2 h274 hb3 => ?_)), trivial⟩
     have s := s k273 hb1 hb2 h274 hb3
     obtain ⟨g275, g276, s⟩ := s
     refine ⟨fun _ => ⟨g275, g276, trivial⟩, ?_⟩
     exact j229 _ _ ⟨p248, p252, p253, p254, (i255), (i256), (i257), (i258), ⟨k273, 0, none⟩, ⟨k269, 0, none⟩, ⟨rfl, rfl, rfl, rfl, rfl, trivial⟩, g275, g276, s⟩
   ·have s := s.2.1
    refine zo rfl (sem_boxNN [(.slice none 0 0), (.slice none 0 0), (.slice none 0 0), (.slice none 0 0)] rfl (fun k277 hb1 hb2 h278 hb3 => ?_))
    have s := s k277 hb1 hb2 h278 hb3
    obtain ⟨g279, g280, s⟩ := s
    refine ⟨fun _ => ⟨g279, g280, trivial⟩, ?_⟩
    refine ⟨?_, ?_, trivial⟩
    ·have s := s.1
     refine zo rfl (sem_callL [(.agg #[(.int .i64 (i20)), (.int .i64 (i21)), (.int .i64 (i22)), (.int .i64 (i23))])] (TF.goes_71) rfl rfl (Spec.mono s fun v h281 hv => ?_))
     obtain ⟨p282, p283, p284, i285, i286, i287, i288, rfl, s⟩ := hv
     obtain ⟨g289, g290, s⟩ := s
     refine ⟨fun _ => ⟨g289, g290, trivial⟩, ?_⟩
     refine ⟨zo rfl (sem_boxNN [(.slice none 0 0)] rfl (fun k291 hb1 hb2 h292 hb3 => ?_)), trivial⟩
     have s := s k291 hb1 hb2 h292 hb3
     obtain ⟨g293, g294, s⟩ := s
     refine ⟨fun _ => ⟨g293, g294, trivial⟩, ?_⟩
     exact j229 _ _ ⟨p248, p282, p283, p284, (i285), (i286), (i287), (i288), ⟨k277, 0, none⟩, ⟨k291, 0, none⟩, ⟨rfl, rfl, rfl, rfl, rfl, trivial⟩, g293, g294, s⟩
    ·have s := s.2
     refine zo rfl (sem_boxNN [(.slice none 0 0)] rfl (fun k295 hb1 hb2 h296 hb3 => ?_))
     have s := s k295 hb1 hb2 h296 hb3
     obtain ⟨g297, g298, s⟩ := s
     refine ⟨fun _ => ⟨g297, g298, trivial⟩, ?_⟩
     refine ⟨zo rfl (sem_callL [(.agg #[(.int .i64 (i20)), (.int .i64 (i21)), (.int .i64 (i22)), (.int .i64 (i23))])] (TF.goes_71) rfl rfl (Spec.mono s fun v h299 hv => ?_)), trivial⟩
     obtain ⟨p300, p301, p302, i303, i304, i305, i306, rfl, s⟩ := hv
     obtain ⟨g307, g308, s⟩ := s
     refine ⟨fun _ => ⟨g307, g308, trivial⟩, ?_⟩
     exact j229 _ _ ⟨p248, p300, p301, p302, (i303), (i304), (i305), (i306), ⟨k277, 0, none⟩, ⟨k295, 0, none⟩, ⟨rfl, rfl, rfl, rfl, rfl, trivial⟩, g307, g308, s⟩
   ·have s := s.2.2
    refine zo rfl (sem_boxNN [(.slice none 0 0)] rfl (fun k309 hb1 hb2 h310 hb3 => ?_))
    have s := s k309 hb1 hb2 h310 hb3
    obtain ⟨g311, g312, s⟩ := s
    refine ⟨fun _ => ⟨g311, g312, trivial⟩, ?_⟩
    refine ⟨?_, ?_, trivial⟩
    ·have s := s.1
     refine zo rfl (sem_callL [(.agg #[(.int .i64 (i20)), (.int .i64 (i21)), (.int .i64 (i22)), (.int .i64 (i23))])] (TF.goes_71) rfl rfl (Spec.mono s fun v h313 hv => ?_))
     obtain ⟨p314, p315, p316, i317, i318, i319, i320, rfl, s⟩ := hv
     obtain ⟨g321, g322, s⟩ := s
     refine ⟨fun _ => ⟨g321, g322, trivial⟩, ?_⟩
     refine ⟨zo rfl (sem_boxNN [(.slice none 0 0), (.slice none 0 0), (.slice none 0 0), (.slice none 0 0)] rfl (fun k323 hb1 hb2 h324 hb3 => ?_)), trivial⟩
     have s := s k323 hb1 hb2 h324 hb3
     obtain ⟨g325, g326, s⟩ := s
     refine ⟨fun _ => ⟨g325, g326, trivial⟩, ?_⟩
     exact j229 _ _ ⟨p248, p314, p315, p316, (i317), (i318), (i319), (i320), ⟨k323, 0, none⟩, ⟨k309, 0, none⟩, ⟨rfl, rfl, rfl, rfl, rfl, trivial⟩, g325, g326, s⟩
    ·have s := s.2
     refine zo rfl (sem_boxNN [(.slice none 0 0), (.slice none 0 0), (.slice none 0 0), (.slice none 0 0)] rfl (fun k327 hb1 hb2 h328 hb3 => ?_))
     have s := s k327 hb1 hb2 h328 hb3
     obtain ⟨g329, g330, s⟩ := s
     refine ⟨fun _ => ⟨g329, g330, trivial⟩, ?_⟩
     refine ⟨zo rfl (sem_callL [(.agg #[(.int .i64 (i20)), (.int .i64 (i21)), (.int .i64 (i22)), (.int .i64 (i23))])] (TF.goes_71) rfl rfl (Spec.mono s fun v h331 hv => ?_)), trivial⟩
     obtain ⟨p332, p333, p334, i335, i336, i337, i338, rfl, s⟩ := hv
     obtain ⟨g339, g340, s⟩ := s
     refine ⟨fun _ => ⟨g339, g340, trivial⟩, ?_⟩
     exact j229 _ _ ⟨p248, p332, p333, p334, (i335), (i336), (i337), (i338), ⟨k327, 0, none⟩, ⟨k309, 0, none⟩, ⟨rfl, rfl, rfl, rfl, rfl, trivial⟩, g339, g340, s⟩
  ·have s := s.2.1
   refine zo rfl (sem_boxNN [(.slice none 0 0), (.slice none 0 0), (.slice none 0 0), (.slice none 0 0)] rfl (fun k341 hb1 hb2 h342 hb3 => ?_))
   have s := s k341 hb1 hb2 h342 hb3
   obtain ⟨g343, g344, s⟩ := s
   refine ⟨fun _ => ⟨g343, g344, trivial⟩, ?_⟩
   refine ⟨?_, ?_, trivial⟩
   ·have s := s.1
    refine zo rfl (sem_callL [(.int .i64 (i18))] (TF.goes_70) rfl rfl (Spec.mono s fun v h345 hv => ?_))
    obtain ⟨p346, rfl, s⟩ := hv
    obtain ⟨g347, g348, s⟩ := s
    refine ⟨fun _ => ⟨g347, g348, trivial⟩, ?_⟩
    refine ⟨?_, ?_, trivial⟩
    ·have s := s.1
     refine zo rfl (sem_callL [(.agg #[(.int .i64 (i20)), (.int .i64 (i21)), (.int .i64 (i22)), (.int .i64 (i23))])] (TF.goes_71) rfl rfl (Spec.mono s fun v h349 hv => ?_))
     obtain ⟨p350, p351, p352, i353, i354, i355, i356, rfl, s⟩ := hv
     obtain ⟨g357, g358, s⟩ := s
     refine ⟨fun _ => ⟨g357, g358, trivial⟩, ?_⟩
     refine ⟨zo rfl (sem_boxNN [(.slice none 0 0)] rfl (fun k359 hb1 hb2 h360 hb3 => ?_)), trivial⟩
     have s := s k359 hb1 hb2 h360 hb3
     obtain ⟨g361, g362, s⟩ := s
     refine ⟨fun _ => ⟨g361, g362, trivial⟩, ?_⟩
     exact j229 _ _ ⟨p346, p350, p351, p352, (i353), (i354), (i355), (i356), ⟨k341, 0, none⟩, ⟨k359, 0, none⟩, ⟨rfl, rfl, rfl, rfl, rfl, trivial⟩, g361, g362, s⟩
    ·have s := s.2
     refine zo rfl (sem_boxNN [(.slice none 0 0)] rfl (fun k363 hb1 hb2 h364 hb3 => ?_))
     have s := s k363 hb1 hb2 h364 hb3
     obtain ⟨g365, g366, s⟩ := s
     refine ⟨fun _ => ⟨g365, g366, trivial⟩, ?_⟩
     refine ⟨zo rfl (sem_callL [(.agg #[(.int .i64 (i20)), (.int .i64 (i21)), (.int .i64 (i22)), (.int .i64 (i23))])] (TF.goes_71) rfl rfl (Spec.mono s fun v h367 hv => ?_)), trivial⟩
     obtain ⟨p368, p369, p370, i371, i372, i373, i374, rfl, s⟩ := hv
     obtain ⟨g375, g376, s⟩ := s
     refine ⟨fun _ => ⟨g375, g376, trivial⟩, ?_⟩
     exact j229 _ _ ⟨p346, p368, p369, p370, (i371), (i372), (i373), (i374), ⟨k341, 0, none⟩, ⟨k363, 0, none⟩, ⟨rfl, rfl, rfl, rfl, rfl, trivial⟩, g375, g376, s⟩
   ·have s := s.2
    refine zo rfl (sem_boxNN [(.slice none 0 0)] rfl (fun k377 hb1 hb2 h378 hb3 => ?_))
    have s := s k377 hb1 hb2 h378 hb3
    obtain ⟨g379, g380, s⟩ := s
    refine ⟨fun _ => ⟨g379, g380, trivial⟩, ?_⟩
    refine ⟨zo rfl (sem_callL [(.int .i64 (i18))] (TF.goes_70) rfl rfl (Spec.mono s fun v h381 hv => ?_)), trivial⟩
    obtain ⟨p382, rfl, s⟩ := hv
    obtain ⟨g383, g384, s⟩ := s
    refine ⟨fun _ => ⟨g383, g384, trivial⟩, ?_⟩
    refine ⟨zo rfl (sem_callL [(.agg #[(.int .i64 (i20)), (.int .i64 (i21)), (.int .i64 (i22)), (.int .i64 (i23))])] (TF.goes_71) rfl rfl (Spec.mono s fun v h385 hv => ?_)), trivial⟩
    obtain ⟨p386, p387, p388, i389, i390, i391, i392, rfl, s⟩ := hv
    obtain ⟨g393, g394, s⟩ := s
    refine ⟨fun _ => ⟨g393, g394, trivial⟩, ?_⟩
    exact j229 _ _ ⟨p382, p386, p387, p388, (i389), (i390), (i391), (i392), ⟨k341, 0, none⟩, ⟨k377, 0, none⟩, ⟨rfl, rfl, rfl, rfl, rfl, trivial⟩, g393, g394, s⟩
  ·have s := s.2.2
   refine zo rfl (sem_boxNN [(.slice none 0 0)] rfl (fun k395 hb1 hb2 h396 hb3 => ?_))
   have s := s k395 hb1 hb2 h396 hb3
   obtain ⟨g397, g398, s⟩ := s
   refine ⟨fun _ => ⟨g397, g398, trivial⟩, ?_⟩
   refine ⟨?_, ?_, trivial⟩
   ·have s := s.1
    refine zo rfl (sem_callL [(.int .i64 (i18))] (TF.goes_70) rfl rfl (Spec.mono s fun v h399 hv => ?_))
    obtain ⟨p400, rfl, s⟩ := hv
    obtain ⟨g401, g402, s⟩ := s
    refine ⟨fun _ => ⟨g401, g402, trivial⟩, ?_⟩
    refine ⟨?_, ?_, trivial⟩
    ·have s := s.1
     refine zo rfl (sem_callL [(.agg #[(.int .i64 (i20)), (.int .i64 (i21)), (.int .i64 (i22)), (.int .i64 (i23))])] (TF.goes_71) rfl rfl (Spec.mono s fun v h403 hv => ?_))
     obtain ⟨p404, p405, p406, i407, i408, i409, i410, rfl, s⟩ := hv
     obtain ⟨g411, g412, s⟩ := s
     refine ⟨fun _ => ⟨g411, g412, trivial⟩, ?_⟩
     refine ⟨zo rfl (sem_boxNN [(.slice none 0 0), (.slice none 0 0), (.slice none 0 0), (.slice none 0 0)] rfl (fun k413 hb1 hb2 h414 hb3 => ?_)), trivial⟩
     have s := s k413 hb1 hb2 h414 hb3
     obtain ⟨g415, g416, s⟩ := s
     refine ⟨fun _ => ⟨g415, g416, trivial⟩, ?_⟩
     exact j229 _ _ ⟨p400, p404, p405, p406, (i407), (i408), (i409), (i410), ⟨k413, 0, none⟩, ⟨k395, 0, none⟩, ⟨rfl, rfl, rfl, rfl, rfl, trivial⟩, g415, g416, s⟩
    ·have s := s.2
     refine zo rfl (sem_boxNN [(.slice none 0 0), (.slice none 0 0), (.slice none 0 0), (.slice none 0 0)] rfl (fun k417 hb1 hb2 h418 hb3 => ?_))
     have s := s k417 hb1 hb2 h418 hb3
     obtain ⟨g419, g420, s⟩ := s
     refine ⟨fun _ => ⟨g419, g420, trivial⟩, ?_⟩
     refine ⟨zo rfl (sem_callL [(.agg #[(.int .i64 (i20)), (.int .i64 (i21)), (.int .i64 (i22)), (.int .i64 (i23))])] (TF.goes_71) rfl rfl (Spec.mono s fun v h421 hv => ?_)), trivial⟩
     obtain ⟨p422, p423, p424, i425, i426, i427, i428, rfl, s⟩ := hv
     obtain ⟨g429, g430, s⟩ := s
     refine ⟨fun _ => ⟨g429, g430, trivial⟩, ?_⟩
     exact j229 _ _ ⟨p400, p422, p423, p424, (i425), (i426), (i427), (i428), ⟨k417, 0, none⟩, ⟨k395, 0, none⟩, ⟨rfl, rfl, rfl, rfl, rfl, trivial⟩, g429, g430, s⟩
   ·have s := s.2
    refine zo rfl (sem_boxNN [(.slice none 0 0), (.slice none 0 0), (.slice none 0 0), (.slice none 0 0)] rfl (fun k431 hb1 hb2 h432 hb3 => ?_))
    have s := s k431 hb1 hb2 h432 hb3
    obtain ⟨g433, g434, s⟩ := s
    refine ⟨fun _ => ⟨g433, g434, trivial⟩, ?_⟩
    refine ⟨zo rfl (sem_callL [(.int .i64 (i18))] (TF.goes_70) rfl rfl (Spec.mono s fun v h435 hv => ?_)), trivial⟩
    obtain ⟨p436, rfl, s⟩ := hv
    obtain ⟨g437, g438, s⟩ := s
    refine ⟨fun _ => ⟨g437, g438, trivial⟩, ?_⟩
    refine ⟨zo rfl (sem_callL [(.agg #[(.int .i64 (i20)), (.int .i64 (i21)), (.int .i64 (i22)), (.int .i64 (i23))])] (TF.goes_71) rfl rfl (Spec.mono s fun v h439 hv => ?_)), trivial⟩
    obtain ⟨p440, p441, p442, i443, i444, i445, i446, rfl, s⟩ := hv
    obtain ⟨g447, g448, s⟩ := s
    refine ⟨fun _ => ⟨g447, g448, trivial⟩, ?_⟩
    exact j229 _ _ ⟨p436, p440, p441, p442, (i443), (i444), (i445), (i446), ⟨k431, 0, none⟩, ⟨k395, 0, none⟩, ⟨rfl, rfl, rfl, rfl, rfl, trivial⟩, g447, g448, s⟩
 refine au 3 rfl ?_
 by_cases hb449 : p1 = none
 ·replace s := s.1 hb449
  refine zg rfl (sem_ptrNilT p1 (.inl rfl) true rfl rfl TF.ptr_29 hb449 rfl ?_)
  refine au 3 rfl ?_
  refine zcall s rfl rfl TF.goes_24 ?_
  rintro _ h450 ⟨p451, rfl, s⟩
  refine au 2 rfl ?_
  exact Run.of_fin (s.imp fun h' s => j9 _ _ ⟨p451, ⟨rfl, rfl, trivial⟩, s⟩)
 ·replace s := s.2 hb449
  refine zg rfl (sem_ptrNilF p1 (.inl rfl) false rfl rfl TF.ptr_29 hb449 rfl ?_)
  refine au 3 rfl ?_
  exact Run.of_fin (s.imp fun h' s => j9 _ _ ⟨p1, ⟨rfl, rfl, trivial⟩, s⟩)
theorem C_attempt_Attempt_Else.of {B : RO} {p1 : Option Addr} {i2 : Int} {h : Heap} {Q : Heap → Prop} (s : S_attempt_Attempt_Else B p1 i2 h Q) : C_attempt_Attempt_Else B p1 i2 h Q := by
 refine zspec Tryz.func26 [] rfl rfl rfl rfl rfl ?_
 refine au 3 rfl ?_
 by_cases hb3 : p1 = none
 ·replace s := s.1 hb3
  refine zg rfl (sem_ptrNilT p1 (.inr rfl) false rfl rfl TF.ptr_30 hb3 rfl ?_)
  refine au 3 rfl ?_
  exact zf (s.imp fun _ q => ⟨rfl, q⟩)
 ·replace s := s.2 hb3
  refine zg rfl (sem_ptrNilF p1 (.inr rfl) true rfl rfl TF.ptr_30 hb3 rfl ?_)
  refine au 2 rfl ?_
  obtain ⟨A5, e6, s⟩ := s
  obtain ⟨p9, hl, s⟩ := s
  have f10 := hl
  obtain ⟨A12, e13, s⟩ := s
  obtain ⟨p16, p17, p18, i19, i20, i21, i22, hl, s⟩ := s
  have f23 := hl
  obtain ⟨A25, e26, s⟩ := s
  obtain ⟨p29, hl, s⟩ := s
  have f30 := hl
  refine Run.drawM (fun h' => cellH B h' (Addr.add A5 10) = some (.pointer p9) ∧ CellsAt B h' (Addr.add A12 2) 0 [(.pointer p16), (.pointer p17), (.pointer p18), (.int .i64 (i19)), (.int .i64 (i20)), (.int .i64 (i21)), (.int .i64 (i22))] ∧ cellH B h' (Addr.add A25 9) = some (.pointer p29) ∧ True) [15] ⟨[0, 1, 2, 4, 0, 16, 32, 64, 0, 256, 512, 1024, 2048, 0, 12416, 20488], [65535, 65534, 65533, 65531, 65535, 65519, 65503, 65471, 65535, 65279, 65023, 64511, 63487, 65535, 53119, 49143], [0, 1, 3, 7, 0, 16, 48, 112, 0, 256, 768, 1792, 3840, 0, 16368, 32767], 32768⟩ (.q 0 (.q 1 (.q 2 (.q 3 (.q 4 (.q 5 (.q 6 (.q 7 (.q 8 (.q 9 (.q 10 (.q 11 (.q 13 (.x 12 (.q 14 (.x 15 .nil .no)) .no)))))))))))))) TF.mixed (by kernel_rfl) ⟨f10, f23, f30, trivial⟩ ?_
  refine auT 1 rfl ?_
  refine zq rfl (fun _ hC => sem_nilCheck A5 (congrArg Value.pointer e6) ⟨rfl, rfl⟩) ?_
  refine auT 1 rfl ?_
  refine zq rfl (fun _ hC => sem_load1 (Addr.add A5 10) ((.pointer p9)) rfl TF.agg_105 hC.1 ⟨rfl, rfl⟩) ?_
  refine auT 1 rfl ?_
  refine zq rfl (fun _ hC => sem_nilCheck A12 (congrArg Value.pointer e13) ⟨rfl, rfl⟩) ?_
  refine auT 1 rfl ?_
  refine zq rfl (fun _ hC => sem_loadN (Addr.add A12 2) [(.pointer p16), (.pointer p17), (.pointer p18), (.int .i64 (i19)), (.int .i64 (i20)), (.int .i64 (i21)), (.int .i64 (i22))] rfl TF.agg_95 TF.sz_95 hC.2.1 ⟨rfl, rfl⟩) ?_
  refine auT 1 rfl ?_
  refine zq rfl (fun _ hC => sem_nilCheck A25 (congrArg Value.pointer e26) ⟨rfl, rfl⟩) ?_
  refine auT 1 rfl ?_
  refine zq rfl (fun _ hC => sem_load1 (Addr.add A25 9) ((.pointer p29)) rfl TF.agg_88 hC.2.2.1 ⟨rfl, rfl⟩) ?_
  refine auT 1 rfl ?_
  refine ⟨zo rfl (sem_callL [(.pointer p29)] (TF.goes_73) rfl rfl (Spec.mono s fun v h32 hv => ?_)), trivial⟩
  obtain ⟨i33, i34, i35, i36, rfl, s⟩ := hv
  obtain ⟨g37, g38, g39, s⟩ := s
  refine ⟨fun _ => ⟨g37, g38, g39, trivial⟩, ?_⟩
  refine zq rfl (fun _ _ => sem_buildSL [(0, (.agg #[(.pointer p16), (.pointer p17), (.pointer p18), (.int .i64 (i19)), (.int .i64 (i20)), (.int .i64 (i21)), (.int .i64 (i22))])), (1, (.agg #[(.int .i64 (i33)), (.int .i64 (i34)), (.int .i64 (i35)), (.int .i64 (i36))])), (2, (.int .i64 (i2)))] [(.pointer p16), (.pointer p17), (.pointer p18), (.int .i64 (i19)), (.int .i64 (i20)), (.int .i64 (i21)), (.int .i64 (i22)), (.int .i64 (i33)), (.int .i64 (i34)), (.int .i64 (i35)), (.int .i64 (i36)), (.int .i64 (i2))] TF.zero_152 TF.places_152 rfl rfl ⟨rfl, rfl⟩) ?_
  refine ⟨zo rfl (sem_callL [(.pointer p9), (.agg #[(.pointer p16), (.pointer p17), (.pointer p18), (.int .i64 (i19)), (.int .i64 (i20)), (.int .i64 (i21)), (.int .i64 (i22)), (.int .i64 (i33)), (.int .i64 (i34)), (.int .i64 (i35)), (.int .i64 (i36)), (.int .i64 (i2))])] (TF.goes_72) rfl rfl (Spec.mono s fun v h40 hv => ?_)), trivial⟩
  obtain ⟨b41, rfl, s⟩ := hv
  refine ⟨fun hz => Bool.noConfusion hz, ?_⟩
  exact zf (s.imp fun _ q => ⟨rfl, q⟩)
theorem C_attempt_Attempt_Back.of {B : RO} {p1 : Option Addr} {h : Heap} {Q : Int → Option Addr → Nat → Nat → Bool → Heap → Prop} (s : S_attempt_Attempt_Back B p1 h Q) : C_attempt_Attempt_Back B p1 h Q := by
 refine zspec Tryz.func27 [ResultVar.tmp 2, ResultVar.tmp 3, ResultVar.tmp 4] rfl rfl rfl rfl rfl ?_
 refine au 10 rfl ?_
 by_cases hb7 : p1 = none
 ·replace s := s.1 hb7
  refine zg rfl (sem_ptrNilT p1 (.inl rfl) true rfl rfl TF.ptr_30 hb7 rfl ?_)
  refine au 8 rfl ?_
  exact zr (s.imp fun _ q => ⟨_, _, _, _, _, rfl, q⟩)
 ·replace s := s.2 hb7
  refine zg rfl (sem_ptrNilF p1 (.inl rfl) false rfl rfl TF.ptr_30 hb7 rfl ?_)
  refine au 6 rfl ?_
  refine znil s rfl rfl fun A8 s => ?_
  refine au 1 rfl ?_
  refine zl s rfl rfl TF.agg_105 fun p10 s => ?_
  refine zcall s rfl rfl TF.goes_74 ?_
  rintro _ h11 ⟨p12, p13, p14, i15, i16, i17, i18, i19, i20, i21, i22, i23, b24, rfl, s⟩
  refine au 2 rfl ?_
  cases b24
  ·replace s := s.2 rfl
   refine au 1 rfl ?_
   refine zal s rfl TF.zero_152 rfl fun k25 h26 s => ?_
   refine zsn s rfl rfl rfl TF.sz_152 rfl fun h27 s => ?_
   refine au 15 rfl ?_
   exact zr (s.imp fun _ q => ⟨_, _, _, _, _, rfl, q⟩)
  ·replace s := s.1 rfl
   refine au 1 rfl ?_
   refine zal s rfl TF.zero_152 rfl fun k28 h29 s => ?_
   refine zsn s rfl rfl rfl TF.sz_152 rfl fun h30 s => ?_
   refine au 14 rfl ?_
   obtain ⟨p31, p32, p33, i34, i35, i36, i37, hl, s⟩ := s
   refine zn hl rfl rfl TF.agg_95 TF.sz_95 rfl ?_
   refine znil s rfl rfl fun A38 s => ?_
   refine au 1 rfl ?_
   refine zsn s rfl rfl rfl TF.sz_95 rfl fun h40 s => ?_
   refine au 2 rfl ?_
   obtain ⟨i42, hl, s⟩ := s
   have f43 := hl
   obtain ⟨A45, e46, s⟩ := s
   obtain ⟨p49, hl, s⟩ := s
   have f50 := hl
   obtain ⟨i52, i53, i54, i55, hl, s⟩ := s
   have f56 := hl
   refine Run.drawM (fun h' => cellH B h' ⟨k28, 11, none⟩ = some (.int .i64 (i42)) ∧ cellH B h' (Addr.add A45 9) = some (.pointer p49) ∧ CellsAt B h' ⟨k28, 7, none⟩ 0 [(.int .i64 (i52)), (.int .i64 (i53)), (.int .i64 (i54)), (.int .i64 (i55))] ∧ True) [] ⟨[0, 1, 0, 4, 8, 16, 0, 64, 160, 259, 1023, 2047], [4095, 4094, 4095, 4091, 4087, 4079, 4095, 4031, 3935, 4093, 3839, 4095], [0, 0, 0, 0, 0, 0, 0, 0, 0, 0, 0, 0], 0⟩ (.q 0 (.q 1 (.q 2 (.q 3 (.q 4 (.q 5 (.q 6 (.q 7 (.x 8 (.q 9 (.q 10 (.q 11 .nil))) .no))))))))) TF.mixed (by kernel_rfl) ⟨f43, f50, f56, trivial⟩ ?_
   refine auT 1 rfl ?_
   refine zq rfl (fun _ hC => sem_load1 ⟨k28, 11, none⟩ ((.int .i64 (i42))) rfl TF.agg_3 hC.1 ⟨rfl, rfl⟩) ?_
   refine auT 1 rfl ?_
   refine zq rfl (fun _ hC => sem_nilCheck A45 (congrArg Value.pointer e46) ⟨rfl, rfl⟩) ?_
   refine auT 1 rfl ?_
   refine zq rfl (fun _ hC => sem_load1 (Addr.add A45 9) ((.pointer p49)) rfl TF.agg_88 hC.2.1 ⟨rfl, rfl⟩) ?_
   refine auT 1 rfl ?_
   refine zq rfl (fun _ hC => sem_loadN ⟨k28, 7, none⟩ [(.int .i64 (i52)), (.int .i64 (i53)), (.int .i64 (i54)), (.int .i64 (i55))] rfl TF.agg_149 TF.sz_149 hC.2.2.1 ⟨rfl, rfl⟩) ?_
   refine ⟨zo rfl (sem_callL [(.pointer p49), (.agg #[(.int .i64 (i52)), (.int .i64 (i53)), (.int .i64 (i54)), (.int .i64 (i55))])] (TF.goes_75) rfl rfl (Spec.mono s fun v h57 hv => ?_)), trivial⟩
   obtain ⟨a58, n59, c60, rfl, s⟩ := hv
   obtain ⟨g61, g62, g63, s⟩ := s
   refine ⟨fun _ => ⟨g61, g62, g63, trivial⟩, ?_⟩
   refine auT 3 rfl ?_
   exact zr (s.imp fun _ q => ⟨_, _, _, _, _, rfl, q⟩)
theorem C_attempt_Attempt_SetRegs.of {B : RO} {p1 : Option Addr} {i2 : Int} {i3 : Int} {i4 : Int} {i5 : Int} {h : Heap} {Q : Heap → Prop} (s : S_attempt_Attempt_SetRegs B p1 i2 i3 i4 i5 h Q) : C_attempt_Attempt_SetRegs B p1 i2 i3 i4 i5 h Q := by
 refine zspec Tryz.func30 [] rfl rfl rfl rfl rfl ?_
 refine au 2 rfl ?_
 refine zbn s rfl rfl rfl fun k6 h7 s => ?_
 refine au 4 rfl ?_
 by_cases hb8 : p1 = none
 ·replace s := s.1 hb8
  refine zg rfl (sem_ptrNilT p1 (.inr rfl) false rfl rfl TF.ptr_30 hb8 rfl ?_)
  refine au 3 rfl ?_
  exact zf (s.imp fun _ q => ⟨rfl, q⟩)
 ·replace s := s.2 hb8
  refine zg rfl (sem_ptrNilF p1 (.inr rfl) true rfl rfl TF.ptr_30 hb8 rfl ?_)
  refine au 4 rfl ?_
  obtain ⟨i9, i10, i11, i12, hl, s⟩ := s
  refine zn hl rfl rfl TF.agg_26 TF.sz_26 rfl ?_
  refine znil s rfl rfl fun A13 s => ?_
  refine au 2 rfl ?_
  refine zsn s rfl rfl rfl TF.sz_26 rfl fun h15 s => ?_
  refine au 1 rfl ?_
  exact zf (s.imp fun _ q => ⟨rfl, q⟩)
theorem C_attempt_Attempt_Sure.of {B : RO} {p1 : Option Addr} {h : Heap} {Q : Heap → Prop} (s : S_attempt_Attempt_Sure B p1 h Q) : C_attempt_Attempt_Sure B p1 h Q := by
 refine zspec Tryz.func31 [] rfl rfl rfl rfl rfl ?_
 refine au 3 rfl ?_
 by_cases hb2 : p1 = none
 ·replace s := s.1 hb2
  refine zg rfl (sem_ptrNilT p1 (.inr rfl) false rfl rfl TF.ptr_30 hb2 rfl ?_)
  refine au 3 rfl ?_
  exact zf (s.imp fun _ q => ⟨rfl, q⟩)
 ·replace s := s.2 hb2
  refine zg rfl (sem_ptrNilF p1 (.inr rfl) true rfl rfl TF.ptr_30 hb2 rfl ?_)
  refine au 4 rfl ?_
  refine znil s rfl rfl fun A3 s => ?_
  refine au 1 rfl ?_
  refine zl s rfl rfl TF.agg_105 fun p5 s => ?_
  refine zcall s rfl rfl TF.goes_76 ?_
  rintro _ h6 ⟨rfl, s⟩
  refine au 1 rfl ?_
  exact zf (s.imp fun _ q => ⟨rfl, q⟩)
theorem C_attempt_Attempt_Acts.of {B : RO} {p1 : Option Addr} {h : Heap} {Q : Option Addr → Heap → Prop} (s : S_attempt_Attempt_Acts B p1 h Q) : C_attempt_Attempt_Acts B p1 h Q := by
 refine zspec Tryz.func33 [ResultVar.tmp 2] rfl rfl rfl rfl rfl ?_
 refine au 8 rfl ?_
 by_cases hb3 : p1 = none
 ·replace s := s.1 hb3
  refine zg rfl (sem_ptrNilT p1 (.inl rfl) true rfl rfl TF.ptr_30 hb3 rfl ?_)
  refine au 6 rfl ?_
  exact zr (s.imp fun _ q => ⟨_, rfl, q⟩)
 ·replace s := s.2 hb3
  refine zg rfl (sem_ptrNilF p1 (.inl rfl) false rfl rfl TF.ptr_30 hb3 rfl ?_)
  refine au 6 rfl ?_
  refine znil s rfl rfl fun A4 s => ?_
  refine au 1 rfl ?_
  refine zl s rfl rfl TF.agg_88 fun p6 s => ?_
  refine au 2 rfl ?_
  exact zr (s.imp fun _ q => ⟨_, rfl, q⟩)
theorem C_attempt_Attempt_Regs.of {B : RO} {p1 : Option Addr} {h : Heap} {Q : Int → Int → Int → Int → Heap → Prop} (s : S_attempt_Attempt_Regs B p1 h Q) : C_attempt_Attempt_Regs B p1 h Q := by
 refine zspec Tryz.func34 [ResultVar.cell 2 26] rfl rfl rfl rfl rfl ?_
 refine au 2 rfl ?_
 refine zal s rfl TF.zero_26 rfl fun k6 h7 s => ?_
 refine au 5 rfl ?_
 by_cases hb8 : p1 = none
 ·replace s := s.1 hb8
  refine zg rfl (sem_ptrNilT p1 (.inl rfl) true rfl rfl TF.ptr_30 hb8 rfl ?_)
  refine au 4 rfl ?_
  refine zg rfl (sem_buildAL [] [(.int .i64 (0)), (.int .i64 (0)), (.int .i64 (0)), (.int .i64 (0))] TF.zero_26 TF.arr_26 rfl rfl ?_)
  refine zsn s rfl rfl rfl TF.sz_26 rfl fun h9 s => ?_
  refine au 1 rfl ?_
  obtain ⟨i10, i11, i12, i13, hl0, s⟩ := s
  exact zr (⟨⟨k6, 0, none⟩, (.agg #[(.int .i64 (i10)), (.int .i64 (i11)), (.int .i64 (i12)), (.int .i64 (i13))]), rfl, loadHN TF.agg_26 TF.sz_26 hl0, s.imp fun _ q => ⟨_, _, _, _, rfl, q⟩⟩)
 ·replace s := s.2 hb8
  refine zg rfl (sem_ptrNilF p1 (.inl rfl) false rfl rfl TF.ptr_30 hb8 rfl ?_)
  refine au 6 rfl ?_
  refine znil s rfl rfl fun A14 s => ?_
  refine au 2 rfl ?_
  obtain ⟨i16, i17, i18, i19, hl, s⟩ := s
  refine zn hl rfl rfl TF.agg_26 TF.sz_26 rfl ?_
  refine zsn s rfl rfl rfl TF.sz_26 rfl fun h20 s => ?_
  refine au 1 rfl ?_
  obtain ⟨i21, i22, i23, i24, hl0, s⟩ := s
  exact zr (⟨⟨k6, 0, none⟩, (.agg #[(.int .i64 (i21)), (.int .i64 (i22)), (.int .i64 (i23)), (.int .i64 (i24))]), rfl, loadHN TF.agg_26 TF.sz_26 hl0, s.imp fun _ q => ⟨_, _, _, _, rfl, q⟩⟩)
theorem C_acts_Acts_Send.of {B : RO} {p1 : Option Addr} {i2 : Int} {i3 : Int} {h : Heap} {Q : Bool → Heap → Prop} (s : S_acts_Acts_Send B p1 i2 i3 h Q) : C_acts_Acts_Send B p1 i2 i3 h Q := by
 refine zspec Tryz.func36 [ResultVar.tmp 6] rfl rfl rfl rfl rfl ?_
 refine au 4 rfl ?_
 refine Run.seqJ (fun e h6 => Agree [(0, (.pointer p1)), (1, (.int .i64 (i2))), (2, (.int .u8 (i3)))] e ∧ S_acts_Acts_Send_J1 B p1 i2 i3 h6 Q) ?_ fun j5 => ?_
 ·rintro e h6 ⟨hag, s⟩
  refine Run.env hag ?_; clear hag
  refine au 4 rfl ?_
  refine znil s rfl rfl fun A7 s => ?_
  refine au 1 rfl ?_
  refine Run.ldSl s fun a9 n10 c11 h12 hl s => ?_
  refine zg rfl (sem_load1 A7 ((.slice a9 n10 c11)) rfl TF.agg_101 hl ?_)
  refine au 2 rfl ?_
  refine zg rfl (sem_buildSL [(0, (.int .i64 (i2))), (1, (.int .u8 (i3)))] [(.int .i64 (i2)), (.int .u8 (i3))] TF.zero_160 TF.places_160 rfl rfl ?_)
  refine zg rfl (sem_buildSliceL [(0, (.agg #[(.int .i64 (i2)), (.int .u8 (i3))]))] [(.int .i64 (i2)), (.int .u8 (i3))] TF.slc_101 TF.zero_160 rfl (by decide) (by decide) rfl rfl (fun k13 hb1 hb2 h14 hb3 => ?_))
  have s := s k13 hb1 hb2 h14 hb3
  refine zg rfl (sem_appendL [(.slice a9 n10 c11), (.slice (some ⟨k13, 0, none⟩) 1 1)] rfl (semH_mono (fun v h15 hv => ?_) s))
  obtain ⟨a16, n17, c18, rfl, s⟩ := hv
  refine znil s rfl rfl fun A19 s => ?_
  refine au 1 rfl ?_
  refine zs1 s rfl rfl rfl rfl TF.sz_101 fun h21 s => ?_
  refine au 5 rfl ?_
  exact zr (s.imp fun _ q => ⟨_, rfl, q⟩)
 refine au 3 rfl ?_
 by_cases hb22 : p1 = none
 ·replace s := s.1 hb22
  refine zg rfl (sem_ptrNilT p1 (.inl rfl) true rfl rfl TF.ptr_88 hb22 rfl ?_)
  refine au 14 rfl ?_
  exact zr (s.imp fun _ q => ⟨_, rfl, q⟩)
 ·replace s := s.2 hb22
  refine zg rfl (sem_ptrNilF p1 (.inl rfl) false rfl rfl TF.ptr_88 hb22 rfl ?_)
  refine au 2 rfl ?_
  refine zt s rfl rfl rfl binI_lss_t binI_lss_f (fun s => ?_) fun s => ?_
  ·refine au 11 rfl ?_
   exact zr (s.imp fun _ q => ⟨_, rfl, q⟩)
  ·refine au 3 rfl ?_
   refine zt s rfl rfl rfl binI_geq_t binI_geq_f (fun s => ?_) fun s => ?_
   ·refine au 7 rfl ?_
    exact zr (s.imp fun _ q => ⟨_, rfl, q⟩)
   ·refine au 4 rfl ?_
    exact Run.of_fin (s.imp fun h' s => j5 _ _ ⟨⟨rfl, rfl, rfl, trivial⟩, s⟩)
theorem C_acts_Acts_Opened.of {B : RO} {p1 : Option Addr} {i2 : Int} {i3 : Int} {h : Heap} {Q : Bool → Heap → Prop} (s : S_acts_Acts_Opened B p1 i2 i3 h Q) : C_acts_Acts_Opened B p1 i2 i3 h Q := by
 refine zspec Tryz.func37 [ResultVar.tmp 6] rfl rfl rfl rfl rfl ?_
 refine au 4 rfl ?_
 refine Run.seqJ (fun e h6 => Agree [(0, (.pointer p1)), (1, (.int .i64 (i2))), (2, (.int .i64 (i3)))] e ∧ S_acts_Acts_Opened_J1 B p1 i2 i3 h6 Q) ?_ fun j5 => ?_
 ·rintro e h6 ⟨hag, s⟩
  refine Run.env hag ?_; clear hag
  refine au 4 rfl ?_
  refine znil s rfl rfl fun A7 s => ?_
  refine au 1 rfl ?_
  refine Run.ldSl s fun a9 n10 c11 h12 hl s => ?_
  refine zg rfl (sem_load1 (Addr.add A7 3) ((.slice a9 n10 c11)) rfl TF.agg_80 hl ?_)
  refine au 2 rfl ?_
  refine zg rfl (sem_buildSL [(0, (.int .i64 (i2))), (1, (.int .i64 (i3)))] [(.int .i64 (i2)), (.int .i64 (i3))] TF.zero_100 TF.places_100 rfl rfl ?_)
  refine zg rfl (sem_buildSliceL [(0, (.agg #[(.int .i64 (i2)), (.int .i64 (i3))]))] [(.int .i64 (i2)), (.int .i64 (i3))] TF.slc_80 TF.zero_100 rfl (by decide) (by decide) rfl rfl (fun k13 hb1 hb2 h14 hb3 => ?_))
  have s := s k13 hb1 hb2 h14 hb3
  refine zg rfl (sem_appendL [(.slice a9 n10 c11), (.slice (some ⟨k13, 0, none⟩) 1 1)] rfl (semH_mono (fun v h15 hv => ?_) s))
  obtain ⟨a16, n17, c18, rfl, s⟩ := hv
  refine znil s rfl rfl fun A19 s => ?_
  refine au 1 rfl ?_
  refine zs1 s rfl rfl rfl rfl TF.sz_80 fun h21 s => ?_
  refine au 5 rfl ?_
  exact zr (s.imp fun _ q => ⟨_, rfl, q⟩)
 refine au 3 rfl ?_
 by_cases hb22 : p1 = none
 ·replace s := s.1 hb22
  refine zg rfl (sem_ptrNilT p1 (.inl rfl) true rfl rfl TF.ptr_88 hb22 rfl ?_)
  refine au 14 rfl ?_
  exact zr (s.imp fun _ q => ⟨_, rfl, q⟩)
 ·replace s := s.2 hb22
  refine zg rfl (sem_ptrNilF p1 (.inl rfl) false rfl rfl TF.ptr_88 hb22 rfl ?_)
  refine au 2 rfl ?_
  refine zt s rfl rfl rfl binI_lss_t binI_lss_f (fun s => ?_) fun s => ?_
  ·refine au 11 rfl ?_
   exact zr (s.imp fun _ q => ⟨_, rfl, q⟩)
  ·refine au 3 rfl ?_
   refine zt s rfl rfl rfl binI_geq_t binI_geq_f (fun s => ?_) fun s => ?_
   ·refine au 7 rfl ?_
    exact zr (s.imp fun _ q => ⟨_, rfl, q⟩)
   ·refine au 4 rfl ?_
    exact Run.of_fin (s.imp fun h' s => j5 _ _ ⟨⟨rfl, rfl, rfl, trivial⟩, s⟩)
theorem C_acts_Acts_Output.of {B : RO} {p1 : Option Addr} {h : Heap} {Q : Option Addr → Nat → Nat → Heap → Prop} (s : S_acts_Acts_Output B p1 h Q) : C_acts_Acts_Output B p1 h Q := by
 refine zspec Tryz.func38 [ResultVar.tmp 2] rfl rfl rfl rfl rfl ?_
 refine au 8 rfl ?_
 by_cases hb5 : p1 = none
 ·replace s := s.1 hb5
  refine zg rfl (sem_ptrNilT p1 (.inl rfl) true rfl rfl TF.ptr_88 hb5 rfl ?_)
  refine au 6 rfl ?_
  exact zr (s.imp fun _ q => ⟨_, _, _, rfl, q⟩)
 ·replace s := s.2 hb5
  refine zg rfl (sem_ptrNilF p1 (.inl rfl) false rfl rfl TF.ptr_88 hb5 rfl ?_)
  refine au 4 rfl ?_
  obtain ⟨A7, e8, s⟩ := s
  obtain ⟨a11, n12, c13, hl, s⟩ := s
  have f14 := hl
  obtain ⟨A16, e17, s⟩ := s
  obtain ⟨a20, n21, c22, hl, s⟩ := s
  have f23 := hl
  refine Run.drawM (fun h' => cellH B h' A7 = some (.slice a11 n12 c13) ∧ cellH B h' (Addr.add A16 1) = some (.slice a20 n21 c22) ∧ True) [] ⟨[0, 1, 2, 4, 0, 16, 32, 64, 136, 256, 1023], [2047, 2046, 2045, 2043, 2047, 2031, 2015, 1983, 1911, 1791, 1535], [0, 0, 0, 0, 0, 0, 0, 0, 0, 0, 0], 0⟩ (.q 0 (.q 1 (.q 2 (.q 3 (.q 4 (.q 5 (.q 6 (.q 7 (.x 8 (.x 9 (.q 10 .nil) .no) .no))))))))) TF.mixed (by kernel_rfl) ⟨f14, f23, trivial⟩ ?_
  refine auT 1 rfl ?_
  refine zq rfl (fun _ hC => sem_nilCheck A7 (congrArg Value.pointer e8) ⟨rfl, rfl⟩) ?_
  refine auT 1 rfl ?_
  refine zq rfl (fun _ hC => sem_load1 A7 ((.slice a11 n12 c13)) rfl TF.agg_101 hC.1 ⟨rfl, rfl⟩) ?_
  refine auT 1 rfl ?_
  refine zq rfl (fun _ hC => sem_nilCheck A16 (congrArg Value.pointer e17) ⟨rfl, rfl⟩) ?_
  refine auT 1 rfl ?_
  refine zq rfl (fun _ hC => sem_load1 (Addr.add A16 1) ((.slice a20 n21 c22)) rfl TF.agg_101 hC.2.1 ⟨rfl, rfl⟩) ?_
  refine ⟨zo rfl (sem_buildSliceL [(0, (.slice a11 n12 c13)), (1, (.slice a20 n21 c22))] [(.slice a11 n12 c13), (.slice a20 n21 c22)] TF.slc_208 TF.zero_101 rfl (by decide) (by decide) rfl rfl (fun k24 hb1 hb2 h25 hb3 => ?_)), trivial⟩
  have s := s k24 hb1 hb2 h25 hb3
  obtain ⟨g26, g27, s⟩ := s
  refine ⟨fun _ => ⟨g26, g27, trivial⟩, ?_⟩
  refine ⟨zo rfl (sem_callL [(.slice (some ⟨k24, 0, none⟩) 2 2)] (TF.goes_80) rfl rfl (Spec.mono s fun v h28 hv => ?_)), trivial⟩
  obtain ⟨a29, n30, c31, rfl, s⟩ := hv
  obtain ⟨g32, g33, s⟩ := s
  refine ⟨fun _ => ⟨g32, g33, trivial⟩, ?_⟩
  refine auT 1 rfl ?_
  exact zr (s.imp fun _ q => ⟨_, _, _, rfl, q⟩)
theorem C_draft_Draft_int_Get.of {B : RO} {p1 : Option Addr} {i2 : Int} {h : Heap} {Q : Int → Bool → Heap → Prop} (s : S_draft_Draft_int_Get B p1 i2 h Q) : C_draft_Draft_int_Get B p1 i2 h Q := by
 refine zspec Tryz.func39 [ResultVar.tmp 4, ResultVar.tmp 5] rfl rfl rfl rfl rfl ?_
 refine au 13 rfl ?_
 by_cases hb5 : p1 = none
 ·replace s := s.1 hb5
  refine zg rfl (sem_ptrNilT p1 (.inl rfl) true rfl rfl TF.ptr_91 hb5 rfl ?_)
  refine au 8 rfl ?_
  exact zr (s.imp fun _ q => ⟨_, _, rfl, q⟩)
 ·replace s := s.2 hb5
  refine zg rfl (sem_ptrNilF p1 (.inl rfl) false rfl rfl TF.ptr_91 hb5 rfl ?_)
  refine au 7 rfl ?_
  refine zcall s rfl rfl TF.goes_81 ?_
  rintro _ h6 ⟨i7, b8, rfl, s⟩
  refine au 2 rfl ?_
  cases b8
  ·replace s := s.2 rfl
   refine au 1 rfl ?_
   refine au 16 rfl ?_
   exact zr (s.imp fun _ q => ⟨_, _, rfl, q⟩)
  ·replace s := s.1 rfl
   refine au 1 rfl ?_
   refine au 14 rfl ?_
   refine znil s rfl rfl fun A9 s => ?_
   refine au 1 rfl ?_
   refine Run.ldSl s fun a11 n12 c13 h14 hl s => ?_
   refine zg rfl (sem_load1 A9 ((.slice a11 n12 c13)) rfl TF.agg_164 hl ?_)
   refine au 1 rfl ?_
   obtain ⟨A15, e16, hi0, hi1, s⟩ := s
   refine zg rfl (sem_indexAddrS A15 n12 c13 .i64 (i7) (congrArg (fun a => Value.slice a n12 c13) e16) rfl TF.slc_164 hi0 hi1 ?_)
   refine au 1 rfl ?_
   refine zl s rfl rfl TF.agg_3 fun i17 s => ?_
   refine au 3 rfl ?_
   exact zr (s.imp fun _ q => ⟨_, _, rfl, q⟩)
theorem C_attempt_Attempt_note.of {B : RO} {p1 : Option Addr} {i2 : Int} {i3 : Int} {h : Heap} {Q : Int → Heap → Prop} (s : S_attempt_Attempt_note B p1 i2 i3 h Q) : C_attempt_Attempt_note B p1 i2 i3 h Q := by
 refine zspec Tryz.func40 [ResultVar.tmp 6] rfl rfl rfl rfl rfl ?_
 refine au 6 rfl ?_
 obtain ⟨A6, e7, s⟩ := s
 obtain ⟨p10, hl, s⟩ := s
 have f11 := hl
 obtain ⟨A13, e14, s⟩ := s
 obtain ⟨p17, hl, s⟩ := s
 have f18 := hl
 refine Run.drawM (fun h' => cellH B h' (Addr.add A6 1) = some (.pointer p10) ∧ cellH B h' A13 = some (.pointer p17) ∧ True) [] ⟨[0, 1, 2, 4, 0, 16, 32, 64, 128, 0, 0, 1800, 2048], [8191, 8190, 8189, 8187, 8191, 8175, 8159, 8127, 8063, 8191, 8191, 6391, 6143], [0, 0, 0, 0, 0, 0, 0, 0, 0, 0, 0, 0, 0], 0⟩ (.q 0 (.q 1 (.q 2 (.q 3 (.q 4 (.q 5 (.q 6 (.q 7 (.q 9 (.q 10 (.x 8 (.x 11 (.q 12 .nil) .no) .no))))))))))) TF.mixed (by kernel_rfl) ⟨f11, f18, trivial⟩ ?_
 refine auT 1 rfl ?_
 refine zq rfl (fun _ hC => sem_nilCheck A6 (congrArg Value.pointer e7) ⟨rfl, rfl⟩) ?_
 refine auT 1 rfl ?_
 refine zq rfl (fun _ hC => sem_load1 (Addr.add A6 1) ((.pointer p10)) rfl TF.agg_69 hC.1 ⟨rfl, rfl⟩) ?_
 refine auT 1 rfl ?_
 refine zq rfl (fun _ hC => sem_nilCheck A13 (congrArg Value.pointer e14) ⟨rfl, rfl⟩) ?_
 refine auT 1 rfl ?_
 refine zq rfl (fun _ hC => sem_load1 A13 ((.pointer p17)) rfl TF.agg_29 hC.2.1 ⟨rfl, rfl⟩) ?_
 refine auT 2 rfl ?_
 refine ⟨zo rfl (sem_callL [(.pointer p17)] (TF.goes_20) rfl rfl (Spec.mono s fun v h21 hv => ?_)), trivial⟩
 obtain ⟨l22, rfl, s⟩ := hv
 obtain ⟨g23, g24, s⟩ := s
 refine ⟨fun _ => ⟨g23, g24, trivial⟩, ?_⟩
 refine ⟨zo rfl (sem_callL [(.pointer p10), (.agg (List.toArray l22)), (.int .i64 (i2)), (.int .i64 (i3))] (TF.goes_82) rfl rfl (Spec.mono s fun v h25 hv => ?_)), trivial⟩
 obtain ⟨b26, rfl, s⟩ := hv
 cases b26
 ·replace s := s.2 rfl
  obtain ⟨g27, g28, s⟩ := s
  refine ⟨fun _ => ⟨g27, g28, trivial⟩, ?_⟩
  refine auT 1 rfl ?_
  refine au 5 rfl ?_
  exact zr (s.imp fun _ q => ⟨_, rfl, q⟩)
 ·replace s := s.1 rfl
  obtain ⟨g29, g30, s⟩ := s
  refine ⟨fun _ => ⟨g29, g30, trivial⟩, ?_⟩
  refine auT 1 rfl ?_
  refine au 6 rfl ?_
  exact zr (s.imp fun _ q => ⟨_, rfl, q⟩)
theorem C_cell_Row_int_Get.of {B : RO} {p1 : Option Addr} {i2 : Int} {h : Heap} {Q : Int → Int → Heap → Prop} (s : S_cell_Row_int_Get B p1 i2 h Q) : C_cell_Row_int_Get B p1 i2 h Q := by
 refine zspec Tryz.func41 [ResultVar.tmp 4, ResultVar.tmp 5] rfl rfl rfl rfl rfl ?_
 refine au 10 rfl ?_
 refine zcall s rfl rfl TF.goes_83 ?_
 rintro _ h5 ⟨b6, rfl, s⟩
 cases b6
 ·replace s := s.2 rfl
  refine au 13 rfl ?_
  exact zr (s.imp fun _ q => ⟨_, _, rfl, q⟩)
 ·replace s := s.1 rfl
  refine au 5 rfl ?_
  refine Run.drawM (fun h' => h' = h5) [] ⟨[0, 1, 2, 4, 0, 24, 32, 64, 0, 256, 512, 1024, 0, 6144, 8192, 16384, 255, 131071], [262143, 262142, 262141, 262139, 262143, 262119, 262111, 262079, 262143, 261887, 261631, 261119, 262143, 255999, 253951, 245759, 262015, 229375], [0, 0, 0, 0, 0, 0, 0, 0, 0, 0, 0, 0, 0, 0, 0, 0, 0, 0], 0⟩ (.q 0 (.q 1 (.q 2 (.q 3 (.q 4 (.q 5 (.q 6 (.q 7 (.q 8 (.q 9 (.q 10 (.q 11 (.q 12 (.q 13 (.q 14 (.q 15 (.q 16 (.q 17 .nil)))))))))))))))))) TF.mixed (by kernel_rfl) rfl ?_
  refine auT 1 rfl ?_
  obtain ⟨A7, e8, s⟩ := s
  refine zqe rfl (sem_nilCheck A7 (congrArg Value.pointer e8) ⟨rfl, rfl⟩) ?_
  refine auT 1 rfl ?_
  obtain ⟨a9, n10, c11, hl, s⟩ := s
  refine zqe rfl (sem_load1 A7 ((.slice a9 n10 c11)) rfl TF.agg_170 hl ⟨rfl, rfl⟩) ?_
  refine auT 1 rfl ?_
  obtain ⟨A12, e13, hi0, hi1, s⟩ := s
  refine zqe rfl (sem_indexAddrS A12 n10 c11 .i64 (i2) (congrArg (fun a => Value.slice a n10 c11) e13) rfl TF.slc_170 hi0 hi1 ⟨rfl, rfl⟩) ?_
  refine auT 1 rfl ?_
  obtain ⟨i14, hl, s⟩ := s
  refine zqe rfl (sem_load1 (Addr.add A12 (Int.toNat (i2) * 2)) ((.int .i64 (i14))) rfl TF.agg_3 hl ⟨rfl, rfl⟩) ?_
  refine auT 1 rfl ?_
  obtain ⟨A15, e16, s⟩ := s
  refine zqe rfl (sem_nilCheck A15 (congrArg Value.pointer e16) ⟨rfl, rfl⟩) ?_
  refine auT 1 rfl ?_
  obtain ⟨a17, n18, c19, hl, s⟩ := s
  refine zqe rfl (sem_load1 A15 ((.slice a17 n18 c19)) rfl TF.agg_170 hl ⟨rfl, rfl⟩) ?_
  refine auT 1 rfl ?_
  obtain ⟨A20, e21, hi0, hi1, s⟩ := s
  refine zqe rfl (sem_indexAddrS A20 n18 c19 .i64 (i2) (congrArg (fun a => Value.slice a n18 c19) e21) rfl TF.slc_170 hi0 hi1 ⟨rfl, rfl⟩) ?_
  refine auT 1 rfl ?_
  obtain ⟨i22, hl, s⟩ := s
  refine zqe rfl (sem_load1 (Addr.add (Addr.add A20 (Int.toNat (i2) * 2)) 1) ((.int .i64 (i22))) rfl TF.agg_3 hl ⟨rfl, rfl⟩) ?_
  refine auT 2 rfl ?_
  exact zr (s.imp fun _ q => ⟨_, _, rfl, q⟩)
theorem C_reads_Set_Valid.of {B : RO} {p1 : Option Addr} {l2 : List Value} {h : Heap} {Q : Bool → Heap → Prop} (s : S_reads_Set_Valid B p1 l2 h Q) : C_reads_Set_Valid B p1 l2 h Q := by
 refine zspec Tryz.func42 [ResultVar.tmp 4] rfl rfl rfl rfl rfl ?_
 refine au 2 rfl ?_
 refine zg rfl (sem_boxNN l2 rfl (fun k4 hb1 hb2 h5 hb3 => ?_))
 have s := s k4 hb1 hb2 h5 hb3
 refine au 6 rfl ?_
 by_cases hb6 : p1 = none
 ·replace s := s.1 hb6
  refine zg rfl (sem_ptrNilT p1 (.inl rfl) true rfl rfl TF.ptr_69 hb6 rfl ?_)
  refine au 6 rfl ?_
  exact zr (s.imp fun _ q => ⟨_, rfl, q⟩)
 ·replace s := s.2 hb6
  refine zg rfl (sem_ptrNilF p1 (.inl rfl) false rfl rfl TF.ptr_69 hb6 rfl ?_)
  refine au 7 rfl ?_
  refine znil s rfl rfl fun A7 s => ?_
  refine au 1 rfl ?_
  refine Run.ldSl s fun a9 n10 c11 h12 hl s => ?_
  refine zg rfl (sem_load1 A7 ((.slice a9 n10 c11)) rfl TF.agg_135 hl ?_)
  refine zg rfl (sem_lenSl a9 n10 c11 rfl TF.sl_135 ?_)
  refine au 3 rfl ?_
  obtain ⟨J18, m16, h0, s⟩ := s
  refine Run.of_fin (h0.imp fun h' h0 => ?_)
  refine Run.loop (σ := Int × Nat) (fun x e h => J18 x.1 x.2 h ∧ Agree [(3, (.pointer (some ⟨k4, 0, none⟩))), (12, (.slice a9 n10 c11)), (13, (.int .i64 ((n10 : Nat)))), (14, (.int .i64 (x.1)))] e) (fun x => x.2) ((0), m16) ⟨h0, ⟨rfl, rfl, rfl, rfl, trivial⟩⟩ ?_; clear h0
  rintro ⟨i13, m15⟩ e h14 ⟨hJ, hag⟩ ih17
  have s := s i13 m15 h14 hJ; clear hJ
  refine Run.env hag ?_; clear hag
  refine au 2 rfl ?_
  refine zt s rfl rfl rfl binI_lss_t binI_lss_f (fun s => ?_) fun s => ?_
  ·refine au 8 rfl ?_
   obtain ⟨A19, e20, hi0, hi1, s⟩ := s
   refine zg rfl (sem_indexAddrS A19 n10 c11 .i64 (i13) (congrArg (fun a => Value.slice a n10 c11) e20) rfl TF.slc_135 hi0 hi1 ?_)
   obtain ⟨i21, i22, i23, hl, s⟩ := s
   refine zn hl rfl rfl TF.agg_174 TF.sz_174 rfl ?_
   refine zal s rfl TF.zero_174 rfl fun k24 h25 s => ?_
   refine zsn s rfl rfl rfl TF.sz_174 rfl fun h26 s => ?_
   refine au 2 rfl ?_
   obtain ⟨l27, nl27, hl, s⟩ := s
   have f28 := hl
   obtain ⟨i30, hl, s⟩ := s
   have f31 := hl
   obtain ⟨i33, hl, s⟩ := s
   have f34 := hl
   obtain ⟨i36, hl, s⟩ := s
   have f37 := hl
   refine Run.drawM (fun h' => CellsAt B h' ⟨k4, 0, none⟩ 0 l27 ∧ cellH B h' ⟨k24, 0, none⟩ = some (.int .i64 (i30)) ∧ cellH B h' ⟨k24, 1, none⟩ = some (.int .i64 (i33)) ∧ cellH B h' ⟨k24, 2, none⟩ = some (.int .i64 (i36)) ∧ True) [] ⟨[0, 0, 2, 0, 8, 21, 0, 64, 160], [511, 511, 509, 511, 503, 490, 511, 447, 351], [0, 0, 0, 0, 0, 0, 0, 0, 0], 0⟩ (.q 0 (.q 1 (.q 2 (.q 3 (.q 4 (.q 6 (.q 7 (.x 5 (.q 8 .nil) .no)))))))) TF.mixed (by kernel_rfl) ⟨f28, f31, f34, f37, trivial⟩ ?_
   refine zq rfl (fun _ hC => sem_loadN ⟨k4, 0, none⟩ l27 rfl TF.agg_65 (TF.sz_65.trans (congrArg some nl27.symm)) hC.1 ⟨rfl, rfl⟩) ?_
   refine auT 1 rfl ?_
   refine zq rfl (fun _ hC => sem_load1 ⟨k24, 0, none⟩ ((.int .i64 (i30))) rfl TF.agg_110 hC.2.1 ⟨rfl, rfl⟩) ?_
   refine auT 1 rfl ?_
   refine zq rfl (fun _ hC => sem_load1 ⟨k24, 1, none⟩ ((.int .i64 (i33))) rfl TF.agg_3 hC.2.2.1 ⟨rfl, rfl⟩) ?_
   refine auT 1 rfl ?_
   refine zq rfl (fun _ hC => sem_load1 ⟨k24, 2, none⟩ ((.int .i64 (i36))) rfl TF.agg_3 hC.2.2.2.1 ⟨rfl, rfl⟩) ?_
   refine ⟨zo rfl (sem_callL [(.agg (List.toArray l27)), (.int .i64 (i30)), (.int .i64 (i33))] (TF.goes_84) rfl rfl (Spec.mono s fun v h38 hv => ?_)), trivial⟩
   obtain ⟨i39, rfl, s⟩ := hv
   obtain ⟨g40, g41, g42, g43, s⟩ := s
   refine ⟨fun _ => ⟨g40, g41, g42, g43, trivial⟩, ?_⟩
   by_cases hb44 : (i39 : Int) = i36
   ·replace s := s.1 hb44
    refine zq rfl (fun _ _ => sem_binI .i64 (i39) (i36) (.bool false) rfl rfl (binI_neq_t hb44) ⟨rfl, rfl⟩) ?_
    refine au 7 rfl ?_
    exact Run.of_fin (s.imp fun h' ⟨m', hm, s⟩ => ih17 ((IntKind.wrap .i64 ((i13) + (1))), m') _ _ ⟨s, ⟨rfl, rfl, rfl, rfl, trivial⟩⟩ hm)
   ·replace s := s.2 hb44
    refine zq rfl (fun _ _ => sem_binI .i64 (i39) (i36) (.bool true) rfl rfl (binI_neq_f hb44) ⟨rfl, rfl⟩) ?_
    refine au 5 rfl ?_
    exact zr (s.imp fun _ q => ⟨_, rfl, q⟩)
  ·refine au 8 rfl ?_
   exact zr (s.imp fun _ q => ⟨_, rfl, q⟩)
theorem C_draft_Draft_int_All.of {B : RO} {p1 : Option Addr} {h : Heap} {Q : Value → Heap → Prop} (s : S_draft_Draft_int_All B p1 h Q) : C_draft_Draft_int_All B p1 h Q := by
 refine zspec Tryz.func43 [ResultVar.tmp 2] rfl rfl rfl rfl rfl ?_
 refine au 2 rfl ?_
 refine zb1 s rfl rfl rfl rfl fun k3 h4 s => ?_
 refine au 7 rfl ?_
 exact zr (s.imp fun _ q => ⟨_, rfl, q⟩)
theorem C_cell_Row_int_Set.of {B : RO} {p1 : Option Addr} {i2 : Int} {i3 : Int} {i4 : Int} {h : Heap} {Q : Bool → Heap → Prop} (s : S_cell_Row_int_Set B p1 i2 i3 i4 h Q) : C_cell_Row_int_Set B p1 i2 i3 i4 h Q := by
 refine zspec Tryz.func44 [ResultVar.tmp 8] rfl rfl rfl rfl rfl ?_
 refine au 9 rfl ?_
 refine zcall s rfl rfl TF.goes_83 ?_
 rintro _ h6 ⟨b7, rfl, s⟩
 cases b7
 ·replace s := s.2 rfl
  refine au 7 rfl ?_
  exact zr (s.imp fun _ q => ⟨_, rfl, q⟩)
 ·replace s := s.1 rfl
  refine au 7 rfl ?_
  refine znil s rfl rfl fun A8 s => ?_
  refine au 1 rfl ?_
  refine Run.ldSl s fun a10 n11 c12 h13 hl s => ?_
  refine zg rfl (sem_load1 A8 ((.slice a10 n11 c12)) rfl TF.agg_170 hl ?_)
  refine au 3 rfl ?_
  refine zg rfl (sem_buildSL [(0, (.int .i64 (i3))), (1, (.int .i64 (i4)))] [(.int .i64 (i3)), (.int .i64 (i4))] TF.zero_169 TF.places_169 rfl rfl ?_)
  obtain ⟨A14, e15, hi0, hi1, s⟩ := s
  refine zg rfl (sem_indexAddrS A14 n11 c12 .i64 (i2) (congrArg (fun a => Value.slice a n11 c12) e15) rfl TF.slc_170 hi0 hi1 ?_)
  refine zsn s rfl rfl rfl TF.sz_169 rfl fun h16 s => ?_
  refine au 5 rfl ?_
  exact zr (s.imp fun _ q => ⟨_, rfl, q⟩)
theorem C_sheet_Sheet_Over.of {B : RO} {p1 : Option Addr} {p2 : Option Addr} {i3 : Int} {h : Heap} {Q : Int → Heap → Prop} (s : S_sheet_Sheet_Over B p1 p2 i3 h Q) : C_sheet_Sheet_Over B p1 p2 i3 h Q := by
 refine zspec Tryz.func45 [ResultVar.tmp 6] rfl rfl rfl rfl rfl ?_
 refine au 2 rfl ?_
 refine zb1 s rfl rfl rfl rfl fun k5 h6 s => ?_
 refine zb1 s rfl rfl rfl rfl fun k7 h8 s => ?_
 refine au 4 rfl ?_
 refine zal s rfl TF.zero_3 rfl fun k9 h10 s => ?_
 refine zs1 s rfl rfl rfl rfl TF.sz_3 fun h11 s => ?_
 refine au 5 rfl ?_
 refine zcall s rfl rfl TF.goes_78 ?_
 rintro _ h12 ⟨p13, rfl, s⟩
 refine zcall s rfl rfl TF.goes_86 ?_
 rintro v15 h14 ⟨_, rfl, s⟩
 refine au 2 rfl ?_
 obtain ⟨xs23, G19, J22, hit, hins, hG, h0, s, hR⟩ := s
 refine Run.of_fin (h0.imp fun h' h0 => ?_)
 refine Run.range (v15) (xs23.map (fun x : Int × Bool × ByteArray => [(.int .i64 (x.1)), (.agg #[(.bool x.2.1), (.string x.2.2)])])) G19 J22 rfl hit hins hG h0 rfl (fun a ha => by obtain ⟨x, _, rfl⟩ := List.mem_map.1 ha; rfl) ?_ ?_
 ·rintro q21 args h20 ha hJ
  obtain ⟨⟨i16, b17, s18⟩, hx, rfl⟩ := Option.map_eq_some_iff.1 ((List.getElem?_map ..).symm.trans ha)
  have s := s q21 h20 i16 b17 s18 hx hJ; clear hJ hx ha
  refine zput rfl ?_
  refine au 5 rfl ?_
  refine zal s rfl TF.zero_119 rfl fun k24 h25 s => ?_
  refine zsn s rfl rfl rfl TF.sz_119 rfl fun h26 s => ?_
  refine au 1 rfl ?_
  refine Run.begin ⟨rfl, ?_⟩
  refine au 3 rfl ?_
  refine zl s rfl rfl TF.agg_40 fun p27 s => ?_
  refine au 1 rfl ?_
  obtain ⟨b28, s29, hl, s⟩ := s
  refine zn hl rfl rfl TF.agg_119 TF.sz_119 rfl ?_
  refine zl s rfl rfl TF.agg_3 fun i30 s => ?_
  refine zcall s rfl rfl TF.goes_87 ?_
  rintro _ h31 ⟨b32, rfl, s⟩
  cases b32
  ·replace s := s.2 rfl
   refine au 4 rfl ?_
   refine Run.of_fin (s.imp fun h' s => ?_)
   exact Run.fall (.inl ⟨rfl, s⟩)
  ·replace s := s.1 rfl
   refine au 3 rfl ?_
   refine zl s rfl rfl TF.agg_3 fun i33 s => ?_
   refine au 1 rfl ?_
   refine zs1 s rfl rfl rfl rfl TF.sz_3 fun h34 s => ?_
   refine au 2 rfl ?_
   refine Run.of_fin (s.imp fun h' s => ?_)
   exact Run.fall (.inl ⟨rfl, s⟩)
 ·intro h20 hJ
  have s := hR h20 (by simpa using hJ); clear hJ hR
  refine au 3 rfl ?_
  refine zl s rfl rfl TF.agg_3 fun i35 s => ?_
  refine au 2 rfl ?_
  exact zr (s.imp fun _ q => ⟨_, rfl, q⟩)
theorem C_cursor_Cursor_Read.of {B : RO} {p1 : Option Addr} {i2 : Int} {h : Heap} {Q : Int → Heap → Prop} (s : S_cursor_Cursor_Read B p1 i2 h Q) : C_cursor_Cursor_Read B p1 i2 h Q := by
 refine zspec Tryz.func46 [ResultVar.tmp 4] rfl rfl rfl rfl rfl ?_
 refine au 4 rfl ?_
 refine Run.seqJ (fun e h5 => Agree [(0, (.pointer p1)), (1, (.int .i64 (i2)))] e ∧ S_cursor_Cursor_Read_J1 B p1 i2 h5 Q) ?_ fun j4 => ?_
 ·rintro e h5 ⟨hag, s⟩
  refine Run.env hag ?_; clear hag
  refine au 4 rfl ?_
  refine znil s rfl rfl fun A6 s => ?_
  refine au 1 rfl ?_
  obtain ⟨hi0, hi1, s⟩ := s
  refine zg rfl (sem_indexAddrA A6 .i64 (i2) rfl rfl TF.arr_53 hi0 hi1 ?_)
  refine zl s rfl rfl TF.agg_3 fun i8 s => ?_
  refine au 2 rfl ?_
  exact zr (s.imp fun _ q => ⟨_, rfl, q⟩)
 refine au 3 rfl ?_
 by_cases hb9 : p1 = none
 ·replace s := s.1 hb9
  refine zg rfl (sem_ptrNilT p1 (.inl rfl) true rfl rfl TF.ptr_93 hb9 rfl ?_)
  refine au 11 rfl ?_
  exact zr (s.imp fun _ q => ⟨_, rfl, q⟩)
 ·replace s := s.2 hb9
  refine zg rfl (sem_ptrNilF p1 (.inl rfl) false rfl rfl TF.ptr_93 hb9 rfl ?_)
  refine au 2 rfl ?_
  refine zcall s rfl rfl TF.goes_88 ?_
  rintro _ h10 ⟨b11, rfl, s⟩
  cases b11
  ·replace s := s.2 rfl
   refine au 8 rfl ?_
   exact zr (s.imp fun _ q => ⟨_, rfl, q⟩)
  ·replace s := s.1 rfl
   refine au 5 rfl ?_
   exact Run.of_fin (s.imp fun h' s => j4 _ _ ⟨⟨rfl, rfl, trivial⟩, s⟩)
theorem C_feed_Feed_Place.of {B : RO} {p1 : Option Addr} {i2 : Int} {h : Heap} {Q : Int → Int → Heap → Prop} (s : S_feed_Feed_Place B p1 i2 h Q) : C_feed_Feed_Place B p1 i2 h Q := by
 refine zspec Tryz.func47 [ResultVar.tmp 4, ResultVar.tmp 5] rfl rfl rfl rfl rfl ?_
 refine au 9 rfl ?_
 by_cases hb5 : p1 = none
 ·replace s := s.1 hb5
  refine zg rfl (sem_ptrNilT p1 (.inl rfl) true rfl rfl TF.ptr_41 hb5 rfl ?_)
  refine au 7 rfl ?_
  exact zr (s.imp fun _ q => ⟨_, _, rfl, q⟩)
 ·replace s := s.2 hb5
  refine zg rfl (sem_ptrNilF p1 (.inl rfl) false rfl rfl TF.ptr_41 hb5 rfl ?_)
  refine au 6 rfl ?_
  refine znil s rfl rfl fun A6 s => ?_
  refine au 1 rfl ?_
  refine zl s rfl rfl TF.agg_39 fun p8 s => ?_
  refine au 1 rfl ?_
  refine zcall s rfl rfl TF.goes_41 ?_
  rintro _ h9 ⟨i10, i11, rfl, s⟩
  refine au 5 rfl ?_
  exact zr (s.imp fun _ q => ⟨_, _, rfl, q⟩)
end Go.Proofs.YtgldgabefiialaaGreat.H

/-
  Part 50 of the proof.
-/
import Derived.Test.YtelkmeiepliecaaGreatDoorU49
set_option linter.unusedSimpArgs false
set_option linter.unusedVariables false
set_option maxHeartbeats 16000000
namespace Go.Proofs.YtelkmeiepliecaaGreatDoor
open Pm
open Go.RowKit Go.WideShapes
theorem tvT_inv (A:Option Addr) (c0:Nat) (l:List St) (name c:ByteArray) (w:World) (h:STR w A c0 l) (hr:StRd l) (hm:ML w) (hc:c.size≤200) (hn:name.size≤9223372036854775807) (hs:SmOk l) {i p:Nat} {pn:ByteArray} (hf:findE l name=0) (hi:idxS l name=some i) (hpn:(namesS l (abvS l i))[0]? = some pn) (hnp:pn.size≤9223372036854775807) (hf2:findE l pn=0) (hi2:idxS l pn=some p) {st:St} (hst:l[i]? = some st) (hsz:st.2.1.size≠0) {ps qs:List Pc} (hv:vwF l l.length i=some ps) (hv2:vwF l l.length p=some qs) (ok1:okM (ps.map entF)) (ok2:okM (qs.map entF)) {bt:List En} (eb:btwF st.2.1 ps=bt) (hz:invE (ps.map entF)=72) :
 Calls Tryz.prog 3 #[.slice A l.length c0,.string name,.string c] w fun e w'=>e=.returned (.bool true)∧Below w.heap.size w w':=by
 have HST:=lh h
 have HRD:=lh hr
 have HM:=lh hm
 have HBB:=lh (Below.refl w.heap.size w)
 have hi1:decide ((200:Int)<(c.size:Int))=false:=by simp;omega
 have hl20:l.length≤100:=by have:=hs.1;omega
 have HZ:=lh hs.sz
 have HAN:=lh (fun W (hW:Below w.heap.size w W)=>ancT_some (h.below hW) hl20 hs.sz (hm.below hW) hn hf hi hpn)
 have HV1:=lh (fun W (hW:Below w.heap.size w W)=>viewT_ok (h.below hW) hl20 hs.sz (hm.below hW) hn hf hi hv)
 have HV2:=lh (fun W (hW:Below w.heap.size w W)=>viewT_ok (h.below hW) hl20 hs.sz (hm.below hW) hnp hf2 hi2 hv2)
 have HBT:=lh (fun W (hW:Below w.heap.size w W)=>betT_ok (h.below hW) hl20 hs.sz (hm.below hW) hn hf hi hst hsz hv eb)
 have HF0:Hid (fineB [0,0,0]=true):=lh rfl;have HI1:=lh (fun W B d (k:SV elE W kN B d (ps.map entF)) (hW:Below w.heap.size w W)=>(show Calls Tryz.prog 11 #[.slice B ps.length d] W (fun e w'=>∃ (B:Option Addr) (n d:Nat),e=.returned (.tuple #[.slice B n d,.int .i64 72])∧Below W.heap.size W w') from (by have h9:=invT_any k ok1 (hm.below hW);rw [List.length_map,hz] at h9;exact h9)));clear hst hv hv2 ok1 ok2 eb hz
 clear h hr hm hs hf hi hpn hf2 hi2
 go_enter Tryz.func3,Tryz.ntmps3
 go_wp2_with (first
  | (go_at_call 5;refine (awake08_any _ (HM.out.below HBB.out)).mono ?_;rintro e w1 ⟨rfl,hb1⟩;replace HBB:=lh (go3 HBB.out hb1);clear hb1)
  | (go_at_call 6;refine (smallS_any A c0 l _ (HST.out.below HBB.out) HRD.out).mono ?_;rintro e w2 ⟨b,rfl,-,hb2⟩;replace HBB:=lh (go3 HBB.out hb2);clear hb2;cases b)
  | (go_at_call 7;refine (HAN.out _ HBB.out).mono ?_;rintro e w3 ⟨b,o,n,d,h0,hnd,hd9,rfl,hu,hb3⟩;replace HBB:=lh (go3 HBB.out hb3);have HU:At (fun W=>W.cell? ⟨b,o,none⟩=some (.string pn)∧b<W.heap.size) w3:=⟨fun X Y h hb=>⟨(hb.cell (p:=⟨b,o,none⟩) h.2).trans h.1,Nat.lt_of_lt_of_le h.2 hb.size⟩,hu⟩;have hn0:((n:Int)==0)=false:=(by simp;omega);clear hb3 hu)
  | (go_at_call_of 8 (Value.string name);refine (HV1.out _ HBB.out).mono ?_;rintro e w4 ⟨B4,d4,rfl,hs4,hb4⟩;replace HBB:=lh (go3 HBB.out hb4);replace HU:=HU.go2 bB hb4;obtain ⟨x0,xl⟩:=HU.out;have HS4:At (fun W=>SV elE W kN B4 d4 (ps.map entF)) w4:=⟨fun X Y h hb=>h.below hb,hs4⟩;clear hb4 hs4)|(go_at_call_of 8 (Value.string pn);refine (HV2.out _ HBB.out).mono ?_;rintro e w5 ⟨B5,d5,rfl,hs5,hb5⟩;replace HBB:=lh (go3 HBB.out hb5);(try replace HS4:=HS4.go2 bB hb5);have HS5:At (fun W=>SV elE W kN B5 d5 (qs.map entF)) w5:=⟨fun X Y h hb=>h.below hb,hs5⟩;clear hb5 hs5 x0 xl)|(go_at_call 9;refine (HBT.out _ HBB.out).mono ?_;rintro e w6 ⟨B6,d6,rfl,hs6,hb6⟩;replace HBB:=lh (go3 HBB.out hb6);(try replace HS4:=HS4.go2 bB hb6);(try replace HS5:=HS5.go2 bB hb6);have HS6:At (fun W=>SV elE W kN B6 d6 bt) w6:=⟨fun X Y h hb=>h.below hb,hs6⟩;clear hb6 hs6)|(go_at_call 10;refine (fineT3 _ _ _ _ _ (BX.new _ [_,_,_] _ rfl)).mono ?_;rintro e wF ⟨rfl,hbF⟩;rw [HF0.out];replace HBB:=lh (go3 (go3 HBB.out (ba _ _)) hbF);(try replace HS4:=HS4.go2 bB hbF);(try replace HS5:=HS5.go2 bB hbF);(try replace HS6:=HS6.go2 bB hbF);clear hbF)|(go_at_call 11;refine (HI1.out _ _ _ (HS4.go bB).out HBB.out).mono ?_;rintro e w7 ⟨B7,n7,d7,rfl,hb7⟩;replace HBB:=lh (go3 HBB.out hb7);clear hb7))
 all_goals go_ret
 all_goals exact ⟨rfl,HBB.out⟩
theorem tvT_cm1 (A:Option Addr) (c0:Nat) (l:List St) (name c:ByteArray) (w:World) (h:STR w A c0 l) (hr:StRd l) (hm:ML w) (hc:c.size≤200) (hn:name.size≤9223372036854775807) (hs:SmOk l) {i p:Nat} {pn:ByteArray} (hf:findE l name=0) (hi:idxS l name=some i) (hpn:(namesS l (abvS l i))[0]? = some pn) (hnp:pn.size≤9223372036854775807) (hf2:findE l pn=0) (hi2:idxS l pn=some p) {st:St} (hst:l[i]? = some st) (hsz:st.2.1.size≠0) {ps qs:List Pc} (hv:vwF l l.length i=some ps) (hv2:vwF l l.length p=some qs) (ok1:okM (ps.map entF)) (ok2:okM (qs.map entF)) {bt:List En} (eb:btwF st.2.1 ps=bt) {a:List En} (i1:invE (ps.map entF)=0) (ea:(invC (ps.map entF)).1=a) (oka:okM a) (okb:okM bt) (pr1:CmPre a bt) (hz:cmpE a bt=72) :
 Calls Tryz.prog 3 #[.slice A l.length c0,.string name,.string c] w fun e w'=>e=.returned (.bool true)∧Below w.heap.size w w':=by
 have HST:=lh h
 have HRD:=lh hr
 have HM:=lh hm
 have HBB:=lh (Below.refl w.heap.size w)
 have hi1:decide ((200:Int)<(c.size:Int))=false:=by simp;omega
 have hl20:l.length≤100:=by have:=hs.1;omega
 have HZ:=lh hs.sz
 have HAN:=lh (fun W (hW:Below w.heap.size w W)=>ancT_some (h.below hW) hl20 hs.sz (hm.below hW) hn hf hi hpn)
 have HV1:=lh (fun W (hW:Below w.heap.size w W)=>viewT_ok (h.below hW) hl20 hs.sz (hm.below hW) hn hf hi hv)
 have HV2:=lh (fun W (hW:Below w.heap.size w W)=>viewT_ok (h.below hW) hl20 hs.sz (hm.below hW) hnp hf2 hi2 hv2)
 have HBT:=lh (fun W (hW:Below w.heap.size w W)=>betT_ok (h.below hW) hl20 hs.sz (hm.below hW) hn hf hi hst hsz hv eb)
 have HF0:Hid (fineB [0,0,0]=true):=lh rfl;have HI1:=lh (fun W B d (k:SV elE W kN B d (ps.map entF)) (hW:Below w.heap.size w W)=>(show Calls Tryz.prog 11 #[.slice B ps.length d] W (fun e w'=>∃ B d,e=.returned (.tuple #[.slice B a.length d,.int .i64 0])∧SV elE w' kN B d a∧Below W.heap.size W w') from (by have h9:=invT_ok k ok1 (hm.below hW) i1;rw [List.length_map,ea] at h9;exact h9)));have HC1:=lh (fun W B d B' d' (k:SV elE W kN B d a) (k':SV elE W kN B' d' bt) (hW:Below w.heap.size w W)=>cmpT_bad k k' oka okb (hm.below hW) pr1 hz (by decide));clear hst hv hv2 ok1 ok2 eb i1 ea oka okb pr1 hz
 clear h hr hm hs hf hi hpn hf2 hi2
 go_enter Tryz.func3,Tryz.ntmps3
 go_wp2_with (first
  | (go_at_call 5;refine (awake08_any _ (HM.out.below HBB.out)).mono ?_;rintro e w1 ⟨rfl,hb1⟩;replace HBB:=lh (go3 HBB.out hb1);clear hb1)
  | (go_at_call 6;refine (smallS_any A c0 l _ (HST.out.below HBB.out) HRD.out).mono ?_;rintro e w2 ⟨b,rfl,-,hb2⟩;replace HBB:=lh (go3 HBB.out hb2);clear hb2;cases b)
  | (go_at_call 7;refine (HAN.out _ HBB.out).mono ?_;rintro e w3 ⟨b,o,n,d,h0,hnd,hd9,rfl,hu,hb3⟩;replace HBB:=lh (go3 HBB.out hb3);have HU:At (fun W=>W.cell? ⟨b,o,none⟩=some (.string pn)∧b<W.heap.size) w3:=⟨fun X Y h hb=>⟨(hb.cell (p:=⟨b,o,none⟩) h.2).trans h.1,Nat.lt_of_lt_of_le h.2 hb.size⟩,hu⟩;have hn0:((n:Int)==0)=false:=(by simp;omega);clear hb3 hu)
  | (go_at_call_of 8 (Value.string name);refine (HV1.out _ HBB.out).mono ?_;rintro e w4 ⟨B4,d4,rfl,hs4,hb4⟩;replace HBB:=lh (go3 HBB.out hb4);replace HU:=HU.go2 bB hb4;obtain ⟨x0,xl⟩:=HU.out;have HS4:At (fun W=>SV elE W kN B4 d4 (ps.map entF)) w4:=⟨fun X Y h hb=>h.below hb,hs4⟩;clear hb4 hs4)|(go_at_call_of 8 (Value.string pn);refine (HV2.out _ HBB.out).mono ?_;rintro e w5 ⟨B5,d5,rfl,hs5,hb5⟩;replace HBB:=lh (go3 HBB.out hb5);(try replace HS4:=HS4.go2 bB hb5);have HS5:At (fun W=>SV elE W kN B5 d5 (qs.map entF)) w5:=⟨fun X Y h hb=>h.below hb,hs5⟩;clear hb5 hs5 x0 xl)|(go_at_call 9;refine (HBT.out _ HBB.out).mono ?_;rintro e w6 ⟨B6,d6,rfl,hs6,hb6⟩;replace HBB:=lh (go3 HBB.out hb6);(try replace HS4:=HS4.go2 bB hb6);(try replace HS5:=HS5.go2 bB hb6);have HS6:At (fun W=>SV elE W kN B6 d6 bt) w6:=⟨fun X Y h hb=>h.below hb,hs6⟩;clear hb6 hs6)|(go_at_call 10;refine (fineT3 _ _ _ _ _ (BX.new _ [_,_,_] _ rfl)).mono ?_;rintro e wF ⟨rfl,hbF⟩;rw [HF0.out];replace HBB:=lh (go3 (go3 HBB.out (ba _ _)) hbF);(try replace HS4:=HS4.go2 bB hbF);(try replace HS5:=HS5.go2 bB hbF);(try replace HS6:=HS6.go2 bB hbF);clear hbF)|(go_at_call 11;refine (HI1.out _ _ _ (HS4.go bB).out HBB.out).mono ?_;rintro e w7 ⟨B7,d7,rfl,hs7,hb7⟩;replace HBB:=lh (go3 HBB.out hb7);(try replace HS5:=HS5.go2 bB hb7);(try replace HS6:=HS6.go2 bB hb7);have HS7:At (fun W=>SV elE W kN B7 d7 a) w7:=⟨fun X Y h hb=>h.below hb,hs7⟩;clear hb7 hs7 HS4)|(go_at_call_of 12 (Value.slice B7 a.length d7);refine (HC1.out _ _ _ _ _ (HS7.go bB).out (HS6.go bB).out HBB.out).mono ?_;rintro e w9 ⟨rfl,hb9⟩;replace HBB:=lh (go3 HBB.out hb9);clear hb9))
 all_goals go_ret
 all_goals exact ⟨rfl,HBB.out⟩
open Pm
open Go.RowKit Go.WideShapes
theorem tvT_cm2 (A:Option Addr) (c0:Nat) (l:List St) (name c:ByteArray) (w:World) (h:STR w A c0 l) (hr:StRd l) (hm:ML w) (hc:c.size≤200) (hn:name.size≤9223372036854775807) (hs:SmOk l) {i p:Nat} {pn:ByteArray} (hf:findE l name=0) (hi:idxS l name=some i) (hpn:(namesS l (abvS l i))[0]? = some pn) (hnp:pn.size≤9223372036854775807) (hf2:findE l pn=0) (hi2:idxS l pn=some p) {st:St} (hst:l[i]? = some st) (hsz:st.2.1.size≠0) {ps qs:List Pc} (hv:vwF l l.length i=some ps) (hv2:vwF l l.length p=some qs) (ok1:okM (ps.map entF)) (ok2:okM (qs.map entF)) {bt:List En} (eb:btwF st.2.1 ps=bt) {a:List En} (i1:invE (ps.map entF)=0) (ea:(invC (ps.map entF)).1=a) (oka:okM a) (okb:okM bt) (pr1:CmPre a bt) {ov:List En} (c1:cmpE a bt=0) (eo:(cmpL a bt).1=ov) (oko:okM ov) (pr2:CmPre ov (qs.map entF)) (hz:cmpE ov (qs.map entF)≠0) :
 Calls Tryz.prog 3 #[.slice A l.length c0,.string name,.string c] w fun e w'=>e=.returned (.bool true)∧Below w.heap.size w w':=by
 have HST:=lh h
 have HRD:=lh hr
 have HM:=lh hm
 have HBB:=lh (Below.refl w.heap.size w)
 have hi1:decide ((200:Int)<(c.size:Int))=false:=by simp;omega
 have hl20:l.length≤100:=by have:=hs.1;omega
 have HZ:=lh hs.sz
 have HAN:=lh (fun W (hW:Below w.heap.size w W)=>ancT_some (h.below hW) hl20 hs.sz (hm.below hW) hn hf hi hpn)
 have HV1:=lh (fun W (hW:Below w.heap.size w W)=>viewT_ok (h.below hW) hl20 hs.sz (hm.below hW) hn hf hi hv)
 have HV2:=lh (fun W (hW:Below w.heap.size w W)=>viewT_ok (h.below hW) hl20 hs.sz (hm.below hW) hnp hf2 hi2 hv2)
 have HBT:=lh (fun W (hW:Below w.heap.size w W)=>betT_ok (h.below hW) hl20 hs.sz (hm.below hW) hn hf hi hst hsz hv eb)
 have HF0:Hid (fineB [0,0,0]=true):=lh rfl;have HI1:=lh (fun W B d (k:SV elE W kN B d (ps.map entF)) (hW:Below w.heap.size w W)=>(show Calls Tryz.prog 11 #[.slice B ps.length d] W (fun e w'=>∃ B d,e=.returned (.tuple #[.slice B a.length d,.int .i64 0])∧SV elE w' kN B d a∧Below W.heap.size W w') from (by have h9:=invT_ok k ok1 (hm.below hW) i1;rw [List.length_map,ea] at h9;exact h9)));have HC1:=lh (fun W B d B' d' (k:SV elE W kN B d a) (k':SV elE W kN B' d' bt) (hW:Below w.heap.size w W)=>(show Calls Tryz.prog 12 #[.slice B a.length d,.slice B' bt.length d'] W (fun e w'=>∃ B d,e=.returned (.tuple #[.slice B ov.length d,.int .i64 0])∧SV elE w' kN B d ov∧Below W.heap.size W w') from by have h9:=cmpT_ok k k' oka okb (hm.below hW) pr1 c1;rw [eo] at h9;exact h9));have HC2:=lh (fun W B d B' d' (k:SV elE W kN B d ov) (k':SV elE W kN B' d' (qs.map entF)) (hW:Below w.heap.size w W)=>(show Calls Tryz.prog 12 #[.slice B ov.length d,.slice B' qs.length d'] W (fun e w'=>e=.returned (.tuple #[.slice none 0 0,.int .i64 (cmpE ov (qs.map entF))])∧Below W.heap.size W w') from by have h9:=cmpT_bad k k' oko ok2 (hm.below hW) pr2 rfl hz;rw [List.length_map] at h9;exact h9));have hzb:(cmpE ov (qs.map entF) != 0)=true:=(by simpa using hz);generalize cmpE ov (qs.map entF)=E1 at *;clear hst hv hv2 ok1 ok2 eb i1 ea oka okb pr1 c1 eo oko pr2 hz
 clear h hr hm hs hf hi hpn hf2 hi2
 go_enter Tryz.func3,Tryz.ntmps3
 go_wp2_with (first
  | (go_at_call 5;refine (awake08_any _ (HM.out.below HBB.out)).mono ?_;rintro e w1 ⟨rfl,hb1⟩;replace HBB:=lh (go3 HBB.out hb1);clear hb1)
  | (go_at_call 6;refine (smallS_any A c0 l _ (HST.out.below HBB.out) HRD.out).mono ?_;rintro e w2 ⟨b,rfl,-,hb2⟩;replace HBB:=lh (go3 HBB.out hb2);clear hb2;cases b)
  | (go_at_call 7;refine (HAN.out _ HBB.out).mono ?_;rintro e w3 ⟨b,o,n,d,h0,hnd,hd9,rfl,hu,hb3⟩;replace HBB:=lh (go3 HBB.out hb3);have HU:At (fun W=>W.cell? ⟨b,o,none⟩=some (.string pn)∧b<W.heap.size) w3:=⟨fun X Y h hb=>⟨(hb.cell (p:=⟨b,o,none⟩) h.2).trans h.1,Nat.lt_of_lt_of_le h.2 hb.size⟩,hu⟩;have hn0:((n:Int)==0)=false:=(by simp;omega);clear hb3 hu)
  | (go_at_call_of 8 (Value.string name);refine (HV1.out _ HBB.out).mono ?_;rintro e w4 ⟨B4,d4,rfl,hs4,hb4⟩;replace HBB:=lh (go3 HBB.out hb4);replace HU:=HU.go2 bB hb4;obtain ⟨x0,xl⟩:=HU.out;have HS4:At (fun W=>SV elE W kN B4 d4 (ps.map entF)) w4:=⟨fun X Y h hb=>h.below hb,hs4⟩;clear hb4 hs4)|(go_at_call_of 8 (Value.string pn);refine (HV2.out _ HBB.out).mono ?_;rintro e w5 ⟨B5,d5,rfl,hs5,hb5⟩;replace HBB:=lh (go3 HBB.out hb5);(try replace HS4:=HS4.go2 bB hb5);have HS5:At (fun W=>SV elE W kN B5 d5 (qs.map entF)) w5:=⟨fun X Y h hb=>h.below hb,hs5⟩;clear hb5 hs5 x0 xl)|(go_at_call 9;refine (HBT.out _ HBB.out).mono ?_;rintro e w6 ⟨B6,d6,rfl,hs6,hb6⟩;replace HBB:=lh (go3 HBB.out hb6);(try replace HS4:=HS4.go2 bB hb6);(try replace HS5:=HS5.go2 bB hb6);have HS6:At (fun W=>SV elE W kN B6 d6 bt) w6:=⟨fun X Y h hb=>h.below hb,hs6⟩;clear hb6 hs6)|(go_at_call 10;refine (fineT3 _ _ _ _ _ (BX.new _ [_,_,_] _ rfl)).mono ?_;rintro e wF ⟨rfl,hbF⟩;rw [HF0.out];replace HBB:=lh (go3 (go3 HBB.out (ba _ _)) hbF);(try replace HS4:=HS4.go2 bB hbF);(try replace HS5:=HS5.go2 bB hbF);(try replace HS6:=HS6.go2 bB hbF);clear hbF)|(go_at_call 11;refine (HI1.out _ _ _ (HS4.go bB).out HBB.out).mono ?_;rintro e w7 ⟨B7,d7,rfl,hs7,hb7⟩;replace HBB:=lh (go3 HBB.out hb7);(try replace HS5:=HS5.go2 bB hb7);(try replace HS6:=HS6.go2 bB hb7);have HS7:At (fun W=>SV elE W kN B7 d7 a) w7:=⟨fun X Y h hb=>h.below hb,hs7⟩;clear hb7 hs7 HS4)|(go_at_call_of 12 (Value.slice B7 a.length d7);refine (HC1.out _ _ _ _ _ (HS7.go bB).out (HS6.go bB).out HBB.out).mono ?_;rintro e w9 ⟨B9,d9,rfl,hs9,hb9⟩;replace HBB:=lh (go3 HBB.out hb9);(try replace HS5:=HS5.go2 bB hb9);have HS9:At (fun W=>SV elE W kN B9 d9 ov) w9:=⟨fun X Y h hb=>h.below hb,hs9⟩;clear hb9 hs9 HS7 HS6)|(go_at_call_of 12 (Value.slice B9 ov.length d9);refine (HC2.out _ _ _ _ _ (HS9.go bB).out (HS5.go bB).out HBB.out).mono ?_;rintro e w8 ⟨rfl,hb8⟩;replace HBB:=lh (go3 HBB.out hb8);clear hb8))
 all_goals go_ret
 all_goals exact ⟨rfl,HBB.out⟩
theorem tvT_snd (A:Option Addr) (c0:Nat) (l:List St) (name c:ByteArray) (w:World) (h:STR w A c0 l) (hr:StRd l) (hm:ML w) (hc:c.size≤200) (hn:name.size≤9223372036854775807) (hs:SmOk l) {i p:Nat} {pn:ByteArray} (hf:findE l name=0) (hi:idxS l name=some i) (hpn:(namesS l (abvS l i))[0]? = some pn) (hnp:pn.size≤9223372036854775807) (hf2:findE l pn=0) (hi2:idxS l pn=some p) {st:St} (hst:l[i]? = some st) (hsz:st.2.1.size≠0) {ps qs:List Pc} (hv:vwF l l.length i=some ps) (hv2:vwF l l.length p=some qs) (ok1:okM (ps.map entF)) (ok2:okM (qs.map entF)) {bt:List En} (eb:btwF st.2.1 ps=bt) {a:List En} (i1:invE (ps.map entF)=0) (ea:(invC (ps.map entF)).1=a) (oka:okM a) (okb:okM bt) (pr1:CmPre a bt) {ov:List En} (c1:cmpE a bt=0) (eo:(cmpL a bt).1=ov) (oko:okM ov) (pr2:CmPre ov (qs.map entF)) {m:List En} (c2:cmpE ov (qs.map entF)=0) (em:(cmpL ov (qs.map entF)).1=m) (okm:okM m) (hz:chkM m≠0) :
 Calls Tryz.prog 3 #[.slice A l.length c0,.string name,.string c] w fun e w'=>e=.returned (.bool true)∧Below w.heap.size w w':=by
 have HST:=lh h
 have HRD:=lh hr
 have HM:=lh hm
 have HBB:=lh (Below.refl w.heap.size w)
 have hi1:decide ((200:Int)<(c.size:Int))=false:=by simp;omega
 have hl20:l.length≤100:=by have:=hs.1;omega
 have HZ:=lh hs.sz
 have HAN:=lh (fun W (hW:Below w.heap.size w W)=>ancT_some (h.below hW) hl20 hs.sz (hm.below hW) hn hf hi hpn)
 have HV1:=lh (fun W (hW:Below w.heap.size w W)=>viewT_ok (h.below hW) hl20 hs.sz (hm.below hW) hn hf hi hv)
 have HV2:=lh (fun W (hW:Below w.heap.size w W)=>viewT_ok (h.below hW) hl20 hs.sz (hm.below hW) hnp hf2 hi2 hv2)
 have HBT:=lh (fun W (hW:Below w.heap.size w W)=>betT_ok (h.below hW) hl20 hs.sz (hm.below hW) hn hf hi hst hsz hv eb)
 have HF0:Hid (fineB [0,0,0]=true):=lh rfl;have HI1:=lh (fun W B d (k:SV elE W kN B d (ps.map entF)) (hW:Below w.heap.size w W)=>(show Calls Tryz.prog 11 #[.slice B ps.length d] W (fun e w'=>∃ B d,e=.returned (.tuple #[.slice B a.length d,.int .i64 0])∧SV elE w' kN B d a∧Below W.heap.size W w') from (by have h9:=invT_ok k ok1 (hm.below hW) i1;rw [List.length_map,ea] at h9;exact h9)));have HC1:=lh (fun W B d B' d' (k:SV elE W kN B d a) (k':SV elE W kN B' d' bt) (hW:Below w.heap.size w W)=>(show Calls Tryz.prog 12 #[.slice B a.length d,.slice B' bt.length d'] W (fun e w'=>∃ B d,e=.returned (.tuple #[.slice B ov.length d,.int .i64 0])∧SV elE w' kN B d ov∧Below W.heap.size W w') from by have h9:=cmpT_ok k k' oka okb (hm.below hW) pr1 c1;rw [eo] at h9;exact h9));have HC2:=lh (fun W B d B' d' (k:SV elE W kN B d ov) (k':SV elE W kN B' d' (qs.map entF)) (hW:Below w.heap.size w W)=>(show Calls Tryz.prog 12 #[.slice B ov.length d,.slice B' qs.length d'] W (fun e w'=>∃ B d,e=.returned (.tuple #[.slice B m.length d,.int .i64 0])∧SV elE w' kN B d m∧Below W.heap.size W w') from by have h9:=cmpT_ok k k' oko ok2 (hm.below hW) pr2 c2;rw [List.length_map,em] at h9;exact h9));have HSD:=lh (fun W B d (k:SV elE W kN B d m) (hW:Below w.heap.size w W)=>(show Calls Tryz.prog 13 #[.slice B m.length d] W (fun e w'=>e=.returned (.bool false)∧Below W.heap.size W w') from by have h9:=sound_any m kN B d W k okm (hm.below hW);rw [show (chkM m==0)=false by simpa using hz] at h9;exact h9));clear hst hv hv2 ok1 ok2 eb i1 ea oka okb pr1 c1 eo oko pr2 c2 em okm hz
 clear h hr hm hs hf hi hpn hf2 hi2
 go_enter Tryz.func3,Tryz.ntmps3
 go_wp2_with (first
  | (go_at_call 5;refine (awake08_any _ (HM.out.below HBB.out)).mono ?_;rintro e w1 ⟨rfl,hb1⟩;replace HBB:=lh (go3 HBB.out hb1);clear hb1)
  | (go_at_call 6;refine (smallS_any A c0 l _ (HST.out.below HBB.out) HRD.out).mono ?_;rintro e w2 ⟨b,rfl,-,hb2⟩;replace HBB:=lh (go3 HBB.out hb2);clear hb2;cases b)
  | (go_at_call 7;refine (HAN.out _ HBB.out).mono ?_;rintro e w3 ⟨b,o,n,d,h0,hnd,hd9,rfl,hu,hb3⟩;replace HBB:=lh (go3 HBB.out hb3);have HU:At (fun W=>W.cell? ⟨b,o,none⟩=some (.string pn)∧b<W.heap.size) w3:=⟨fun X Y h hb=>⟨(hb.cell (p:=⟨b,o,none⟩) h.2).trans h.1,Nat.lt_of_lt_of_le h.2 hb.size⟩,hu⟩;have hn0:((n:Int)==0)=false:=(by simp;omega);clear hb3 hu)
  | (go_at_call_of 8 (Value.string name);refine (HV1.out _ HBB.out).mono ?_;rintro e w4 ⟨B4,d4,rfl,hs4,hb4⟩;replace HBB:=lh (go3 HBB.out hb4);replace HU:=HU.go2 bB hb4;obtain ⟨x0,xl⟩:=HU.out;have HS4:At (fun W=>SV elE W kN B4 d4 (ps.map entF)) w4:=⟨fun X Y h hb=>h.below hb,hs4⟩;clear hb4 hs4)|(go_at_call_of 8 (Value.string pn);refine (HV2.out _ HBB.out).mono ?_;rintro e w5 ⟨B5,d5,rfl,hs5,hb5⟩;replace HBB:=lh (go3 HBB.out hb5);(try replace HS4:=HS4.go2 bB hb5);have HS5:At (fun W=>SV elE W kN B5 d5 (qs.map entF)) w5:=⟨fun X Y h hb=>h.below hb,hs5⟩;clear hb5 hs5 x0 xl)|(go_at_call 9;refine (HBT.out _ HBB.out).mono ?_;rintro e w6 ⟨B6,d6,rfl,hs6,hb6⟩;replace HBB:=lh (go3 HBB.out hb6);(try replace HS4:=HS4.go2 bB hb6);(try replace HS5:=HS5.go2 bB hb6);have HS6:At (fun W=>SV elE W kN B6 d6 bt) w6:=⟨fun X Y h hb=>h.below hb,hs6⟩;clear hb6 hs6)|(go_at_call 10;refine (fineT3 _ _ _ _ _ (BX.new _ [_,_,_] _ rfl)).mono ?_;rintro e wF ⟨rfl,hbF⟩;rw [HF0.out];replace HBB:=lh (go3 (go3 HBB.out (ba _ _)) hbF);(try replace HS4:=HS4.go2 bB hbF);(try replace HS5:=HS5.go2 bB hbF);(try replace HS6:=HS6.go2 bB hbF);clear hbF)|(go_at_call 11;refine (HI1.out _ _ _ (HS4.go bB).out HBB.out).mono ?_;rintro e w7 ⟨B7,d7,rfl,hs7,hb7⟩;replace HBB:=lh (go3 HBB.out hb7);(try replace HS5:=HS5.go2 bB hb7);(try replace HS6:=HS6.go2 bB hb7);have HS7:At (fun W=>SV elE W kN B7 d7 a) w7:=⟨fun X Y h hb=>h.below hb,hs7⟩;clear hb7 hs7 HS4)|(go_at_call_of 12 (Value.slice B7 a.length d7);refine (HC1.out _ _ _ _ _ (HS7.go bB).out (HS6.go bB).out HBB.out).mono ?_;rintro e w9 ⟨B9,d9,rfl,hs9,hb9⟩;replace HBB:=lh (go3 HBB.out hb9);(try replace HS5:=HS5.go2 bB hb9);have HS9:At (fun W=>SV elE W kN B9 d9 ov) w9:=⟨fun X Y h hb=>h.below hb,hs9⟩;clear hb9 hs9 HS7 HS6)|(go_at_call_of 12 (Value.slice B9 ov.length d9);refine (HC2.out _ _ _ _ _ (HS9.go bB).out (HS5.go bB).out HBB.out).mono ?_;rintro e w8 ⟨B8,d8,rfl,hs8,hb8⟩;replace HBB:=lh (go3 HBB.out hb8);have HS8:At (fun W=>SV elE W kN B8 d8 m) w8:=⟨fun X Y h hb=>h.below hb,hs8⟩;clear hb8 hs8 HS9 HS5)|(go_at_call 13;refine (HSD.out _ _ _ (HS8.go bB).out HBB.out).mono ?_;rintro e wS ⟨rfl,hbS⟩;replace HBB:=lh (go3 HBB.out hbS);(try replace HS8:=HS8.go2 bB hbS);clear hbS))
 all_goals go_ret
 all_goals exact ⟨rfl,HBB.out⟩
end Go.Proofs.YtelkmeiepliecaaGreatDoor

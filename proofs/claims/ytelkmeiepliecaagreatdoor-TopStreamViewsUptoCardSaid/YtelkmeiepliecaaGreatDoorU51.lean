/-
  Part 51 of the proof.
-/
import Derived.Test.YtelkmeiepliecaaGreatDoorU50
import Derived.Test.YtelkmeiepliecaaGreatDoorRows
import Derived.ShutString
import Derived.ChangeOld
import Derived.Lay
import Derived.LaidMore
import Derived.SevenTiedAt
import Derived.Deep.DeepHandedRow
set_option linter.unusedSimpArgs false
set_option linter.unusedVariables false
set_option maxHeartbeats 16000000
namespace Go.Proofs.YtelkmeiepliecaaGreatDoor
open Pm
open Go.RowKit Go.WideShapes
theorem tvT_yes (A:Option Addr) (c0:Nat) (l:List St) (name c:ByteArray) (w:World) (h:STR w A c0 l) (hr:StRd l) (hm:ML w) (hc:c.size≤200) (hn:name.size≤9223372036854775807) (hs:SmOk l) {i p:Nat} {pn:ByteArray} (hf:findE l name=0) (hi:idxS l name=some i) (hpn:(namesS l (abvS l i))[0]? = some pn) (hnp:pn.size≤9223372036854775807) (hf2:findE l pn=0) (hi2:idxS l pn=some p) {st:St} (hst:l[i]? = some st) (hsz:st.2.1.size≠0) {ps qs:List Pc} (hv:vwF l l.length i=some ps) (hv2:vwF l l.length p=some qs) (ok1:okM (ps.map entF)) (ok2:okM (qs.map entF)) {bt:List En} (eb:btwF st.2.1 ps=bt) {a:List En} (i1:invE (ps.map entF)=0) (ea:(invC (ps.map entF)).1=a) (oka:okM a) (okb:okM bt) (pr1:CmPre a bt) {ov:List En} (c1:cmpE a bt=0) (eo:(cmpL a bt).1=ov) (oko:okM ov) (pr2:CmPre ov (qs.map entF)) {m:List En} (c2:cmpE ov (qs.map entF)=0) (em:(cmpL ov (qs.map entF)).1=m) (okm:okM m) (hz:chkM m=0) {s1:ByteArray} (e1:locP l i c=(1,s1)) (hfw:forM m c=(c,true)) :
 Calls Tryz.prog 3 #[.slice A l.length c0,.string name,.string c] w fun e w'=>e=.returned (.bool true)∧Below w.heap.size w w':=by
 have HST:=lh h
 have HRD:=lh hr
 have HM:=lh hm
 have HBB:=lh (Below.refl w.heap.size w)
 have hi1:decide ((200:Int)<(c.size:Int))=false:=by simp;omega
 have hl20:l.length≤100:=by have:=hs.1;omega
 have HZ:=lh hs.sz
 have HAN:=lh (fun W (hW:Below w.heap.size w W)=>ancT_some (h.below hW) hl20 hs.sz (hm.below hW) hn hf hi hpn)
 have HV1:=lh (fun W (hW:Below w.heap.size w W)=>viewT_ok (h.below hW) hl20 hs.sz (hm.below hW) hn hf hi hv)
 have HV2:=lh (fun W (hW:Below w.heap.size w W)=>viewT_ok (h.below hW) hl20 hs.sz (hm.below hW) hnp hf2 hi2 hv2)
 have HBT:=lh (fun W (hW:Below w.heap.size w W)=>betT_ok (h.below hW) hl20 hs.sz (hm.below hW) hn hf hi hst hsz hv eb)
 have HF0:Hid (fineB [0,0,0]=true):=lh rfl;have HI1:=lh (fun W B d (k:SV elE W kN B d (ps.map entF)) (hW:Below w.heap.size w W)=>(show Calls Tryz.prog 11 #[.slice B ps.length d] W (fun e w'=>∃ B d,e=.returned (.tuple #[.slice B a.length d,.int .i64 0])∧SV elE w' kN B d a∧Below W.heap.size W w') from (by have h9:=invT_ok k ok1 (hm.below hW) i1;rw [List.length_map,ea] at h9;exact h9)));have HC1:=lh (fun W B d B' d' (k:SV elE W kN B d a) (k':SV elE W kN B' d' bt) (hW:Below w.heap.size w W)=>(show Calls Tryz.prog 12 #[.slice B a.length d,.slice B' bt.length d'] W (fun e w'=>∃ B d,e=.returned (.tuple #[.slice B ov.length d,.int .i64 0])∧SV elE w' kN B d ov∧Below W.heap.size W w') from by have h9:=cmpT_ok k k' oka okb (hm.below hW) pr1 c1;rw [eo] at h9;exact h9));have HC2:=lh (fun W B d B' d' (k:SV elE W kN B d ov) (k':SV elE W kN B' d' (qs.map entF)) (hW:Below w.heap.size w W)=>(show Calls Tryz.prog 12 #[.slice B ov.length d,.slice B' qs.length d'] W (fun e w'=>∃ B d,e=.returned (.tuple #[.slice B m.length d,.int .i64 0])∧SV elE w' kN B d m∧Below W.heap.size W w') from by have h9:=cmpT_ok k k' oko ok2 (hm.below hW) pr2 c2;rw [List.length_map,em] at h9;exact h9));have HSD:=lh (fun W B d (k:SV elE W kN B d m) (hW:Below w.heap.size w W)=>(show Calls Tryz.prog 13 #[.slice B m.length d] W (fun e w'=>e=.returned (.bool true)∧Below W.heap.size W w') from by have h9:=sound_any m kN B d W k okm (hm.below hW);rw [hz] at h9;exact h9));have HL1:=lh (fun W (hW:Below w.heap.size w W)=>(show Calls Tryz.prog 14 #[.slice A l.length c0,.string name,.string c] W (fun e w'=>e=.returned (.tuple #[.int .i64 1,.string s1,.int .i64 0])∧Below W.heap.size W w') from by have h9:=locT (c:=c) (h.below hW) hl20 hs.sz (hm.below hW) hn (by omega) hf hi;rw [e1] at h9;exact h9));have HFW:=lh (fun W B d (k:SV elE W kN B d m) (hW:Below w.heap.size w W)=>(show Calls Tryz.prog 15 #[.slice B m.length d,.string c] W (fun e w'=>e=.returned (.tuple #[.string c,.bool true])∧Below W.heap.size W w') from by have h9:=mforward_any m c kN B d W k okm (by omega) (hm.below hW);rw [hfw] at h9;exact h9));clear hst hv hv2 ok1 ok2 eb i1 ea oka okb pr1 c1 eo oko pr2 c2 em okm hz e1 hfw
 clear h hr hm hs hf hi hpn hf2 hi2
 go_enter Tryz.func3,Tryz.ntmps3
 go_wp2_with (first
  | (go_at_call 5;refine (awake08_any _ (HM.out.below HBB.out)).mono ?_;rintro e w1 ⟨rfl,hb1⟩;replace HBB:=lh (go3 HBB.out hb1);clear hb1)
  | (go_at_call 6;refine (smallS_any A c0 l _ (HST.out.below HBB.out) HRD.out).mono ?_;rintro e w2 ⟨b,rfl,-,hb2⟩;replace HBB:=lh (go3 HBB.out hb2);clear hb2;cases b)
  | (go_at_call 7;refine (HAN.out _ HBB.out).mono ?_;rintro e w3 ⟨b,o,n,d,h0,hnd,hd9,rfl,hu,hb3⟩;replace HBB:=lh (go3 HBB.out hb3);have HU:At (fun W=>W.cell? ⟨b,o,none⟩=some (.string pn)∧b<W.heap.size) w3:=⟨fun X Y h hb=>⟨(hb.cell (p:=⟨b,o,none⟩) h.2).trans h.1,Nat.lt_of_lt_of_le h.2 hb.size⟩,hu⟩;have hn0:((n:Int)==0)=false:=(by simp;omega);clear hb3 hu)
  | (go_at_call_of 8 (Value.string name);refine (HV1.out _ HBB.out).mono ?_;rintro e w4 ⟨B4,d4,rfl,hs4,hb4⟩;replace HBB:=lh (go3 HBB.out hb4);replace HU:=HU.go2 bB hb4;obtain ⟨x0,xl⟩:=HU.out;have HS4:At (fun W=>SV elE W kN B4 d4 (ps.map entF)) w4:=⟨fun X Y h hb=>h.below hb,hs4⟩;clear hb4 hs4)|(go_at_call_of 8 (Value.string pn);refine (HV2.out _ HBB.out).mono ?_;rintro e w5 ⟨B5,d5,rfl,hs5,hb5⟩;replace HBB:=lh (go3 HBB.out hb5);(try replace HS4:=HS4.go2 bB hb5);have HS5:At (fun W=>SV elE W kN B5 d5 (qs.map entF)) w5:=⟨fun X Y h hb=>h.below hb,hs5⟩;clear hb5 hs5 x0 xl)|(go_at_call 9;refine (HBT.out _ HBB.out).mono ?_;rintro e w6 ⟨B6,d6,rfl,hs6,hb6⟩;replace HBB:=lh (go3 HBB.out hb6);(try replace HS4:=HS4.go2 bB hb6);(try replace HS5:=HS5.go2 bB hb6);have HS6:At (fun W=>SV elE W kN B6 d6 bt) w6:=⟨fun X Y h hb=>h.below hb,hs6⟩;clear hb6 hs6)|(go_at_call 10;refine (fineT3 _ _ _ _ _ (BX.new _ [_,_,_] _ rfl)).mono ?_;rintro e wF ⟨rfl,hbF⟩;rw [HF0.out];replace HBB:=lh (go3 (go3 HBB.out (ba _ _)) hbF);(try replace HS4:=HS4.go2 bB hbF);(try replace HS5:=HS5.go2 bB hbF);(try replace HS6:=HS6.go2 bB hbF);clear hbF)|(go_at_call 11;refine (HI1.out _ _ _ (HS4.go bB).out HBB.out).mono ?_;rintro e w7 ⟨B7,d7,rfl,hs7,hb7⟩;replace HBB:=lh (go3 HBB.out hb7);(try replace HS5:=HS5.go2 bB hb7);(try replace HS6:=HS6.go2 bB hb7);have HS7:At (fun W=>SV elE W kN B7 d7 a) w7:=⟨fun X Y h hb=>h.below hb,hs7⟩;clear hb7 hs7 HS4)|(go_at_call_of 12 (Value.slice B7 a.length d7);refine (HC1.out _ _ _ _ _ (HS7.go bB).out (HS6.go bB).out HBB.out).mono ?_;rintro e w9 ⟨B9,d9,rfl,hs9,hb9⟩;replace HBB:=lh (go3 HBB.out hb9);(try replace HS5:=HS5.go2 bB hb9);have HS9:At (fun W=>SV elE W kN B9 d9 ov) w9:=⟨fun X Y h hb=>h.below hb,hs9⟩;clear hb9 hs9 HS7 HS6)|(go_at_call_of 12 (Value.slice B9 ov.length d9);refine (HC2.out _ _ _ _ _ (HS9.go bB).out (HS5.go bB).out HBB.out).mono ?_;rintro e w8 ⟨B8,d8,rfl,hs8,hb8⟩;replace HBB:=lh (go3 HBB.out hb8);have HS8:At (fun W=>SV elE W kN B8 d8 m) w8:=⟨fun X Y h hb=>h.below hb,hs8⟩;clear hb8 hs8 HS9 HS5)|(go_at_call 13;refine (HSD.out _ _ _ (HS8.go bB).out HBB.out).mono ?_;rintro e wS ⟨rfl,hbS⟩;replace HBB:=lh (go3 HBB.out hbS);(try replace HS8:=HS8.go2 bB hbS);clear hbS)|(go_at_call 14;refine (HL1.out _ HBB.out).mono ?_;rintro e wL ⟨rfl,hbL⟩;replace HBB:=lh (go3 HBB.out hbL);(try replace HS8:=HS8.go2 bB hbL);clear hbL)|(go_at_call 15;refine (HFW.out _ _ _ (HS8.go bB).out HBB.out).mono ?_;rintro e wW ⟨rfl,hbW⟩;replace HBB:=lh (go3 HBB.out hbW);clear hbW))
 all_goals go_ret
 all_goals exact ⟨rfl,HBB.out⟩
theorem tvT_not (A:Option Addr) (c0:Nat) (l:List St) (name c:ByteArray) (w:World) (h:STR w A c0 l) (hr:StRd l) (hm:ML w) (hc:c.size≤200) (hn:name.size≤9223372036854775807) (hs:SmOk l) {i p:Nat} {pn:ByteArray} (hf:findE l name=0) (hi:idxS l name=some i) (hpn:(namesS l (abvS l i))[0]? = some pn) (hnp:pn.size≤9223372036854775807) (hf2:findE l pn=0) (hi2:idxS l pn=some p) {st:St} (hst:l[i]? = some st) (hsz:st.2.1.size≠0) {ps qs:List Pc} (hv:vwF l l.length i=some ps) (hv2:vwF l l.length p=some qs) (ok1:okM (ps.map entF)) (ok2:okM (qs.map entF)) {bt:List En} (eb:btwF st.2.1 ps=bt) {a:List En} (i1:invE (ps.map entF)=0) (ea:(invC (ps.map entF)).1=a) (oka:okM a) (okb:okM bt) (pr1:CmPre a bt) {ov:List En} (c1:cmpE a bt=0) (eo:(cmpL a bt).1=ov) (oko:okM ov) (pr2:CmPre ov (qs.map entF)) {m:List En} (c2:cmpE ov (qs.map entF)=0) (em:(cmpL ov (qs.map entF)).1=m) (okm:okM m) (hz:chkM m=0) {k1:Int} {s1:ByteArray} (e1:locP l i c=(k1,s1)) (hk1:k1≠1) (hfw:forM m c=(⟨#[]⟩,false)) :
 Calls Tryz.prog 3 #[.slice A l.length c0,.string name,.string c] w fun e w'=>e=.returned (.bool true)∧Below w.heap.size w w':=by
 have HST:=lh h
 have HRD:=lh hr
 have HM:=lh hm
 have HBB:=lh (Below.refl w.heap.size w)
 have hi1:decide ((200:Int)<(c.size:Int))=false:=by simp;omega
 have hl20:l.length≤100:=by have:=hs.1;omega
 have HZ:=lh hs.sz
 have HAN:=lh (fun W (hW:Below w.heap.size w W)=>ancT_some (h.below hW) hl20 hs.sz (hm.below hW) hn hf hi hpn)
 have HV1:=lh (fun W (hW:Below w.heap.size w W)=>viewT_ok (h.below hW) hl20 hs.sz (hm.below hW) hn hf hi hv)
 have HV2:=lh (fun W (hW:Below w.heap.size w W)=>viewT_ok (h.below hW) hl20 hs.sz (hm.below hW) hnp hf2 hi2 hv2)
 have HBT:=lh (fun W (hW:Below w.heap.size w W)=>betT_ok (h.below hW) hl20 hs.sz (hm.below hW) hn hf hi hst hsz hv eb)
 have HF0:Hid (fineB [0,0,0]=true):=lh rfl;have HI1:=lh (fun W B d (k:SV elE W kN B d (ps.map entF)) (hW:Below w.heap.size w W)=>(show Calls Tryz.prog 11 #[.slice B ps.length d] W (fun e w'=>∃ B d,e=.returned (.tuple #[.slice B a.length d,.int .i64 0])∧SV elE w' kN B d a∧Below W.heap.size W w') from (by have h9:=invT_ok k ok1 (hm.below hW) i1;rw [List.length_map,ea] at h9;exact h9)));have HC1:=lh (fun W B d B' d' (k:SV elE W kN B d a) (k':SV elE W kN B' d' bt) (hW:Below w.heap.size w W)=>(show Calls Tryz.prog 12 #[.slice B a.length d,.slice B' bt.length d'] W (fun e w'=>∃ B d,e=.returned (.tuple #[.slice B ov.length d,.int .i64 0])∧SV elE w' kN B d ov∧Below W.heap.size W w') from by have h9:=cmpT_ok k k' oka okb (hm.below hW) pr1 c1;rw [eo] at h9;exact h9));have HC2:=lh (fun W B d B' d' (k:SV elE W kN B d ov) (k':SV elE W kN B' d' (qs.map entF)) (hW:Below w.heap.size w W)=>(show Calls Tryz.prog 12 #[.slice B ov.length d,.slice B' qs.length d'] W (fun e w'=>∃ B d,e=.returned (.tuple #[.slice B m.length d,.int .i64 0])∧SV elE w' kN B d m∧Below W.heap.size W w') from by have h9:=cmpT_ok k k' oko ok2 (hm.below hW) pr2 c2;rw [List.length_map,em] at h9;exact h9));have HSD:=lh (fun W B d (k:SV elE W kN B d m) (hW:Below w.heap.size w W)=>(show Calls Tryz.prog 13 #[.slice B m.length d] W (fun e w'=>e=.returned (.bool true)∧Below W.heap.size W w') from by have h9:=sound_any m kN B d W k okm (hm.below hW);rw [hz] at h9;exact h9));have HL1:=lh (fun W (hW:Below w.heap.size w W)=>(show Calls Tryz.prog 14 #[.slice A l.length c0,.string name,.string c] W (fun e w'=>e=.returned (.tuple #[.int .i64 k1,.string s1,.int .i64 0])∧Below W.heap.size W w') from by have h9:=locT (c:=c) (h.below hW) hl20 hs.sz (hm.below hW) hn (by omega) hf hi;rw [e1] at h9;exact h9));have HFW:=lh (fun W B d (k:SV elE W kN B d m) (hW:Below w.heap.size w W)=>(show Calls Tryz.prog 15 #[.slice B m.length d,.string c] W (fun e w'=>e=.returned (.tuple #[.string ⟨#[]⟩,.bool false])∧Below W.heap.size W w') from by have h9:=mforward_any m c kN B d W k okm (by omega) (hm.below hW);rw [hfw] at h9;exact h9));have hkb:(k1==1)=false:=(by simpa using hk1);clear hst hv hv2 ok1 ok2 eb i1 ea oka okb pr1 c1 eo oko pr2 c2 em okm hz e1 hfw hk1
 clear h hr hm hs hf hi hpn hf2 hi2
 go_enter Tryz.func3,Tryz.ntmps3
 go_wp2_with (first
  | (go_at_call 5;refine (awake08_any _ (HM.out.below HBB.out)).mono ?_;rintro e w1 ⟨rfl,hb1⟩;replace HBB:=lh (go3 HBB.out hb1);clear hb1)
  | (go_at_call 6;refine (smallS_any A c0 l _ (HST.out.below HBB.out) HRD.out).mono ?_;rintro e w2 ⟨b,rfl,-,hb2⟩;replace HBB:=lh (go3 HBB.out hb2);clear hb2;cases b)
  | (go_at_call 7;refine (HAN.out _ HBB.out).mono ?_;rintro e w3 ⟨b,o,n,d,h0,hnd,hd9,rfl,hu,hb3⟩;replace HBB:=lh (go3 HBB.out hb3);have HU:At (fun W=>W.cell? ⟨b,o,none⟩=some (.string pn)∧b<W.heap.size) w3:=⟨fun X Y h hb=>⟨(hb.cell (p:=⟨b,o,none⟩) h.2).trans h.1,Nat.lt_of_lt_of_le h.2 hb.size⟩,hu⟩;have hn0:((n:Int)==0)=false:=(by simp;omega);clear hb3 hu)
  | (go_at_call_of 8 (Value.string name);refine (HV1.out _ HBB.out).mono ?_;rintro e w4 ⟨B4,d4,rfl,hs4,hb4⟩;replace HBB:=lh (go3 HBB.out hb4);replace HU:=HU.go2 bB hb4;obtain ⟨x0,xl⟩:=HU.out;have HS4:At (fun W=>SV elE W kN B4 d4 (ps.map entF)) w4:=⟨fun X Y h hb=>h.below hb,hs4⟩;clear hb4 hs4)|(go_at_call_of 8 (Value.string pn);refine (HV2.out _ HBB.out).mono ?_;rintro e w5 ⟨B5,d5,rfl,hs5,hb5⟩;replace HBB:=lh (go3 HBB.out hb5);(try replace HS4:=HS4.go2 bB hb5);have HS5:At (fun W=>SV elE W kN B5 d5 (qs.map entF)) w5:=⟨fun X Y h hb=>h.below hb,hs5⟩;clear hb5 hs5 x0 xl)|(go_at_call 9;refine (HBT.out _ HBB.out).mono ?_;rintro e w6 ⟨B6,d6,rfl,hs6,hb6⟩;replace HBB:=lh (go3 HBB.out hb6);(try replace HS4:=HS4.go2 bB hb6);(try replace HS5:=HS5.go2 bB hb6);have HS6:At (fun W=>SV elE W kN B6 d6 bt) w6:=⟨fun X Y h hb=>h.below hb,hs6⟩;clear hb6 hs6)|(go_at_call 10;refine (fineT3 _ _ _ _ _ (BX.new _ [_,_,_] _ rfl)).mono ?_;rintro e wF ⟨rfl,hbF⟩;rw [HF0.out];replace HBB:=lh (go3 (go3 HBB.out (ba _ _)) hbF);(try replace HS4:=HS4.go2 bB hbF);(try replace HS5:=HS5.go2 bB hbF);(try replace HS6:=HS6.go2 bB hbF);clear hbF)|(go_at_call 11;refine (HI1.out _ _ _ (HS4.go bB).out HBB.out).mono ?_;rintro e w7 ⟨B7,d7,rfl,hs7,hb7⟩;replace HBB:=lh (go3 HBB.out hb7);(try replace HS5:=HS5.go2 bB hb7);(try replace HS6:=HS6.go2 bB hb7);have HS7:At (fun W=>SV elE W kN B7 d7 a) w7:=⟨fun X Y h hb=>h.below hb,hs7⟩;clear hb7 hs7 HS4)|(go_at_call_of 12 (Value.slice B7 a.length d7);refine (HC1.out _ _ _ _ _ (HS7.go bB).out (HS6.go bB).out HBB.out).mono ?_;rintro e w9 ⟨B9,d9,rfl,hs9,hb9⟩;replace HBB:=lh (go3 HBB.out hb9);(try replace HS5:=HS5.go2 bB hb9);have HS9:At (fun W=>SV elE W kN B9 d9 ov) w9:=⟨fun X Y h hb=>h.below hb,hs9⟩;clear hb9 hs9 HS7 HS6)|(go_at_call_of 12 (Value.slice B9 ov.length d9);refine (HC2.out _ _ _ _ _ (HS9.go bB).out (HS5.go bB).out HBB.out).mono ?_;rintro e w8 ⟨B8,d8,rfl,hs8,hb8⟩;replace HBB:=lh (go3 HBB.out hb8);have HS8:At (fun W=>SV elE W kN B8 d8 m) w8:=⟨fun X Y h hb=>h.below hb,hs8⟩;clear hb8 hs8 HS9 HS5)|(go_at_call 13;refine (HSD.out _ _ _ (HS8.go bB).out HBB.out).mono ?_;rintro e wS ⟨rfl,hbS⟩;replace HBB:=lh (go3 HBB.out hbS);(try replace HS8:=HS8.go2 bB hbS);clear hbS)|(go_at_call 14;refine (HL1.out _ HBB.out).mono ?_;rintro e wL ⟨rfl,hbL⟩;replace HBB:=lh (go3 HBB.out hbL);(try replace HS8:=HS8.go2 bB hbL);clear hbL)|(go_at_call 15;refine (HFW.out _ _ _ (HS8.go bB).out HBB.out).mono ?_;rintro e wW ⟨rfl,hbW⟩;replace HBB:=lh (go3 HBB.out hbW);clear hbW))
 all_goals go_ret
 all_goals exact ⟨rfl,HBB.out⟩
open Pm
open Go.RowKit Go.WideShapes
theorem topStreamViews_any (A:Option Addr) (c0:Nat) (l:List St) (name c:ByteArray) (w:World) (h:STR w A c0 l) (hr:StRd l) (hn:name.size≤maxLen) (hc:c.size≤maxLen) (hsh:w.ShapedOpen Tryz.prog) :
 Calls Tryz.prog 3 #[.slice A l.length c0,.string name,.string c] w fun e w'=>e=.returned (.bool true)∧Below w.heap.size w w':=by
 have hm:=ML.of hsh
 have hn':name.size≤9223372036854775807:=Nat.le_trans hn (by decide)
 have hc':c.size≤9223372036854775807:=Nat.le_trans hc (by decide)
 by_cases hs:SmOk l
 ·by_cases h2:200<c.size
  ·exact tvT_long A c0 l name c w h hr hm hc' h2
  ·have h200:c.size≤200:=by omega
   by_cases hf:findE l name=0
   ·have hck:=findE_zero hf
    have hg:=good_of hck
    obtain ⟨i,hi⟩:∃ i,idxS l name=some i:=by
     cases hx:idxS l name with
     | some i=>exact ⟨i,rfl⟩
     | none =>
      unfold findE at hf
      rw [if_pos hck,hx] at hf
      cases hf
    have hil:=idxS_lt hi
    have hz40:Sz40 l:=fun s hs' p hp=>(hs.sz s hs').2.2 p hp
    cases ha:abvS l i with
    | nil=>exact tvT_main A c0 l name c w h hr hm h200 hn' hs hf hi ha
    | cons p L =>
     obtain ⟨hp,sp,hsp,hpn⟩:=anc_first hg ha hil
     obtain ⟨hf2,hi2⟩:=find_of hg hck hsp
     have hnp:sp.1.size≤9223372036854775807:=by
      have:=(hs.sz sp (mG hsp)).1.1
      omega
     have hst0:∃ st,l[i]? = some st∧st.2.1.size≠0:=by
      have hp':=hp
      unfold parS at hp'
      split at hp'
      ·rename_i st hst
       refine ⟨st,hst,fun e=>?_⟩
       rw [if_pos e] at hp'
       cases hp'
      ·cases hp'
     obtain ⟨st,hst,hsz⟩:=hst0
     cases hv:vwF l l.length i with
     | none=>exact tvT_own A c0 l name c w h hr hm h200 hn' hs hf hi hpn hnp hf2 hi2 hv
     | some ps =>
      cases hv2:vwF l l.length p with
      | none=>exact tvT_par A c0 l name c w h hr hm h200 hn' hs hf hi hpn hnp hf2 hi2 hv2
      | some qs =>
       have l1:=pcsF_len (view_len hv)
       have l2:=pcsF_len (view_len hv2)
       have pe:=pcs_e hg hz40 (view_len hv)
       have qe:=pcs_e hg hz40 (view_len hv2)
       have ok1:=okM_view pe l1
       have ok2:=okM_view qe l2
       have hpl:=parS_lt hp
       have o1:=view_one hg hil hv
       have o2:=view_one hg hpl hv2
       have ke1:∀ e∈ps.map entF,okEn e:=fun e he=>(ok1.1 e he).1
       have ke2:∀ e∈qs.map entF,okEn e∧szE 320 e:=fun e he=>by
        obtain ⟨q,hq,rfl⟩:=List.mem_map.1 he
        obtain ⟨h1,h2,h3,h4⟩:=(qe q hq).en
        exact ⟨h1,szN_up h2 (by omega),szN_up h3 (by omega),fun x hx=>szN_up (h4 x hx) (by omega)⟩
       rcases inv_e72 (chk_one ke1 o1) with i1|i1
       ·have va:∀ e∈(invC (ps.map entF)).1,okEn e∧szE 160 e:=fun e he=>⟨(inv_all pe i1 e he).ok,(inv_all pe i1 e he).sz⟩
        have hnm:sp.1=st.2.1:=by
         have hp':=hp
         unfold parS at hp'
         rw [hst] at hp'
         dsimp only at hp'
         rw [if_neg hsz] at hp'
         obtain ⟨t,ht,e⟩:=idxS_name hp'
         rw [hsp] at ht
         cases ht
         exact e
        have hpar:comp st.2.1.data.toList=true:=hnm▸(nm_comp hg hsp).1
        have hpz:st.2.1.size≤40:=by have:=(nm_comp hg hsp).2;rw [hnm] at this;omega
        have vb:=bt_ok hg hst hpar hpz hv pe
        have ob:=bt_one hg hst hpar hv (fun q hq=>(pe q hq).en.1)
        have oa:=inv_one2 ke1 o1 i1
        have lb:(btwF st.2.1 ps).length≤32:=by
         unfold btwF
         rw [List.length_map]
         exact Nat.le_trans (List.length_filter_le _ _) l1
        have up:∀ {m:Nat} {L:List En},m≤2400→(∀ e∈L,okEn e∧szE m e)→L.length≤32→okM L:=fun hm h hl=>⟨fun e he=>⟨(h e he).1,szE_up hm (h e he).2⟩,hl⟩
        have oka:=up (by omega) va (invC_len _)
        have okb:=up (by omega) vb lb
        have pr1:=cm_pre (m:=160) (by omega) va vb
        rcases cmp_e72 (chk_one (fun e he=>(va e he).1) oa) (chk_one (fun e he=>(vb e he).1) ob) with c1|c1
        ·have vo:=cm_all va vb c1
         have oko:=up (by omega) vo (cmpC_len _ _ _)
         have pr2:=cm_pre (m:=320) (by omega) vo ke2
         by_cases c2:cmpE (cmpL (invC (ps.map entF)).1 (btwF st.2.1 ps)).1 (qs.map entF)=0
         ·have vm:=cm_all vo ke2 c2
          have okm:=up (by omega) vm (cmpC_len _ _ _)
          by_cases hk:chkM (cmpL (cmpL (invC (ps.map entF)).1 (btwF st.2.1 ps)).1 (qs.map entF)).1=0
          ·have hlaw:=views_law hg hz40 hp hil hst hv hv2 l1 l2 i1 c1 c2 rfl (fun e he=>(vm e he).1) c
           have hfm:forM (cmpL (cmpL (invC (ps.map entF)).1 (btwF st.2.1 ps)).1 (qs.map entF)).1 c=forL (cmpL (cmpL (invC (ps.map entF)).1 (btwF st.2.1 ps)).1 (qs.map entF)).1 c:=if_pos hk
           by_cases k1:(locP l i c).1=1
           ·rw [if_pos k1] at hlaw
            exact tvT_yes A c0 l name c w h hr hm h200 hn' hs hf hi hpn hnp hf2 hi2 hst hsz hv hv2 ok1 ok2 rfl i1 rfl oka okb pr1 c1 rfl oko pr2 c2 rfl okm hk (s1:=(locP l i c).2) (Prod.ext k1 rfl) (hfm.trans hlaw)
           ·rw [if_neg k1] at hlaw
            exact tvT_not A c0 l name c w h hr hm h200 hn' hs hf hi hpn hnp hf2 hi2 hst hsz hv hv2 ok1 ok2 rfl i1 rfl oka okb pr1 c1 rfl oko pr2 c2 rfl okm hk (k1:=(locP l i c).1) (s1:=(locP l i c).2) rfl k1 (hfm.trans hlaw)
          ·exact tvT_snd A c0 l name c w h hr hm h200 hn' hs hf hi hpn hnp hf2 hi2 hst hsz hv hv2 ok1 ok2 rfl i1 rfl oka okb pr1 c1 rfl oko pr2 c2 rfl okm hk
         ·exact tvT_cm2 A c0 l name c w h hr hm h200 hn' hs hf hi hpn hnp hf2 hi2 hst hsz hv hv2 ok1 ok2 rfl i1 rfl oka okb pr1 c1 rfl oko pr2 c2
        ·exact tvT_cm1 A c0 l name c w h hr hm h200 hn' hs hf hi hpn hnp hf2 hi2 hst hsz hv hv2 ok1 ok2 rfl i1 rfl oka okb pr1 c1
       ·exact tvT_inv A c0 l name c w h hr hm h200 hn' hs hf hi hpn hnp hf2 hi2 hst hsz hv hv2 ok1 ok2 rfl i1
   ·exact tvT_find A c0 l name c w h hr hm h200 hn' hs hf
 ·exact tvT_large A c0 l name c w h hr hm hc' hs
open Go.ChangeShapes Go.WideShapes Go.ChangeAt Go.RowKit
theorem own:ownKnob Tryz.prog.godebug=none:=by kernel_rfl
theorem laidOut:laidOutB Tryz.prog=true:=by kernel_rfl
theorem witness_row_shaped {H:Type} {enc:TypeId×Value→H} {C:Checked} {os:Os} {f:FuncId} {fn:Func} {s:OpenSpec} {conds:List PathCond} {apart:Bool} {laid:List (String×DataW Unit)} (modest:Bool) (w0:World) (args:Array Value) (hos:w0.os=os)
 (hsh:(w0.forCall (fun _ _=>0) ⟨#[],args,[]⟩).Shaped C.prog)
 (hok:Input.okWideB C.prog (w0.forCall (fun _ _=>0) ⟨#[],args,[]⟩) f ⟨#[],args,[]⟩=true)
 (hrow:s.preRow enc C.prog fn conds apart laid (w0.forCall (fun _ _=>0) ⟨#[],args,[]⟩).memory args) :
 ∃ (w:World) (tape:Tape) (i:Input),w.os=os∧(w.forCall tape i).Shaped C.prog∧i.vars=[]∧Input.okWide C.prog (w.forCall tape i) .any w.heap.size f i ∧
  s.preRow enc C.prog fn conds apart laid (w.forCall tape i).memory i.args∧({ modest:=modest }:Assume).holds C.prog (lone (Frame.enter C.prog f i.args .normal) [] (w.forCall tape i)) :=
 ⟨w0,fun _ _=>0,⟨#[],args,[]⟩,hos,hsh,(Input.okWide_of_okWideB (base:=0) hok).1,(Input.okWide_of_okWideB hok).2,hrow,by
  simp only [Assume.holds]
  exact ⟨by simp,by simp,fun _=>Modest.zero,by simp,by simp⟩⟩
end Go.Proofs.YtelkmeiepliecaaGreatDoor

/-
  Part 51 of the proof.
-/
import Derived.Test.YtelkmeiepliecaaGreatDoorV50
import Derived.Test.YtelkmeiepliecaaGreatDoorV49
set_option linter.unusedSimpArgs false
set_option linter.unusedVariables false
set_option maxHeartbeats 16000000
namespace Go.Proofs.YtelkmeiepliecaaGreatDoor
open Pm
open Go.RowKit Go.WideShapes
theorem fineB_l {x y:Int} (h:x≠0):fineB [x,y]=false:=by
 unfold fineB
 simp [h]
theorem fineB_r {x y:Int} (h:y≠0):fineB [x,y]=false:=by
 unfold fineB
 simp [h]
theorem viewT_any {l:List St} {A:Option Addr} {c0:Nat} {name:ByteArray} {W:World} (h:STR W A c0 l) (hl:l.length≤100) (hz:SzS l) (hm:ML W) (hn:name.size≤9223372036854775807) :
 Calls Tryz.prog 8 #[.slice A l.length c0,.string name] W fun e w'=>∃ (B:Option Addr) (n d:Nat) (k:Int),e=.returned (.tuple #[.slice B n d,.int .i64 k])∧Below W.heap.size W w' :=
 (ViewS_any A c0 l name W h hl hz hm hn).mono fun e w' k=>by
  cases hv:(vewF l name).1 with
  | some ps =>
   obtain ⟨B,d,h1,_,h3⟩:=k.1 ps hv
   exact ⟨B,_,d,0,h1,h3⟩
  | none =>
   obtain ⟨h1,h3⟩:=k.2 hv
   exact ⟨none,0,0,_,h1,h3⟩
theorem invT_ok {m:List En} {A:Option Addr} {c:Nat} {W:World} (h:SV elE W kN A c m) (ok:okM m) (hm:ML W) (hi:invE m=0) :
 Calls Tryz.prog 11 #[.slice A m.length c] W fun e w'=>∃ B d,e=.returned (.tuple #[.slice B (invC m).1.length d,.int .i64 0])∧SV elE w' kN B d (invC m).1∧Below W.heap.size W w' :=
 (inverse_any m kN A c W h ok hm).mono fun e w' k=>by
  obtain ⟨B,d,h1,h2,_,h4⟩:=k.1 hi
  exact ⟨B,d,h1,h2.weak,h4⟩
theorem invT_any {m:List En} {A:Option Addr} {c:Nat} {W:World} (h:SV elE W kN A c m) (ok:okM m) (hm:ML W) :
 Calls Tryz.prog 11 #[.slice A m.length c] W fun e w'=>∃ (B:Option Addr) (n d:Nat),e=.returned (.tuple #[.slice B n d,.int .i64 (invE m)])∧Below W.heap.size W w' :=
 (inverse_any m kN A c W h ok hm).mono fun e w' k=>by
  by_cases hi:invE m=0
  ·obtain ⟨B,d,h1,h2,_,h4⟩:=k.1 hi
   rw [hi]
   exact ⟨B,_,d,h1,h4⟩
  ·exact ⟨none,0,0,(k.2 hi).1,(k.2 hi).2⟩
theorem agrT {a b:List En} {A B:Option Addr} {c d:Nat} {W:World} (ha:SV elE W kN A c a) (hb:SV elE W kN B d b) (va:∀ x∈a,InvE x) (vb:∀ x∈b,InvE x) (la:a.length≤32) (lb:b.length≤32) (hm:ML W) :
 Calls Tryz.prog 16 #[.slice A a.length c,.slice B b.length d] W (RetAm W a b) :=
 agreement_any a b A B c d W ha hb (okM_inv va la) (okM_inv vb lb) hm (fun e he f hf hg=>(ag_sz (va e he) (vb f hf) hg).1.up (by omega)) (fun e he f hf ho=>agP_szP (va e he) (vb f hf) ho)
theorem agT_find (A:Option Addr) (c0:Nat) (l:List St) (name c:ByteArray) (w:World) (h:STR w A c0 l) (hr:StRd l) (hm:ML w) (hc:c.size≤200) (hn:name.size≤9223372036854775807) (hs:SmOk l) (hf:findE l name≠0) :
 Calls Tryz.prog 4 #[.slice A l.length c0,.string name,.string c] w fun e w'=>e=.returned (.bool true)∧Below w.heap.size w w':=by
 have HST:=lh h
 have HRD:=lh hr
 have HM:=lh hm
 have HBB:=lh (Below.refl w.heap.size w)
 have hi1:decide ((200:Int)<(c.size:Int))=false:=by simp;omega
 have hl20:l.length≤100:=by have:=hs.1;omega
 have HZ:=lh hs.sz
 have HAN:=lh (fun W (hW:Below w.heap.size w W)=>ancT_bad (h.below hW) hl20 hs.sz (hm.below hW) hn hf)
 clear h hr hm hs hf
 go_enter Tryz.func4,Tryz.ntmps4
 go_wp2_with (first
  | (go_at_call 5;refine (awake08_any _ (HM.out.below HBB.out)).mono ?_;rintro e w1 ⟨rfl,hb1⟩;replace HBB:=lh (go3 HBB.out hb1);clear hb1)
  | (go_at_call 6;refine (smallS_any A c0 l _ (HST.out.below HBB.out) HRD.out).mono ?_;rintro e w2 ⟨b,rfl,-,hb2⟩;replace HBB:=lh (go3 HBB.out hb2);clear hb2;cases b)
  | (go_at_call 7;refine (HAN.out _ HBB.out).mono ?_;rintro e w3 ⟨n,hn0,rfl,hb3⟩;replace HBB:=lh (go3 HBB.out hb3);have hnb:(n != 0)=true:=(by simpa using hn0);clear hb3))
 all_goals go_ret
 all_goals exact ⟨rfl,HBB.out⟩
theorem agT_main (A:Option Addr) (c0:Nat) (l:List St) (name c:ByteArray) (w:World) (h:STR w A c0 l) (hr:StRd l) (hm:ML w) (hc:c.size≤200) (hn:name.size≤9223372036854775807) (hs:SmOk l) {i:Nat} (hf:findE l name=0) (hi:idxS l name=some i) (ha:abvS l i=[]) :
 Calls Tryz.prog 4 #[.slice A l.length c0,.string name,.string c] w fun e w'=>e=.returned (.bool true)∧Below w.heap.size w w':=by
 have HST:=lh h
 have HRD:=lh hr
 have HM:=lh hm
 have HBB:=lh (Below.refl w.heap.size w)
 have hi1:decide ((200:Int)<(c.size:Int))=false:=by simp;omega
 have hl20:l.length≤100:=by have:=hs.1;omega
 have HZ:=lh hs.sz
 have HAN:=lh (fun W (hW:Below w.heap.size w W)=>ancT_nil (h.below hW) hl20 hs.sz (hm.below hW) hn hf hi ha)
 clear h hr hm hs hf
 go_enter Tryz.func4,Tryz.ntmps4
 go_wp2_with (first
  | (go_at_call 5;refine (awake08_any _ (HM.out.below HBB.out)).mono ?_;rintro e w1 ⟨rfl,hb1⟩;replace HBB:=lh (go3 HBB.out hb1);clear hb1)
  | (go_at_call 6;refine (smallS_any A c0 l _ (HST.out.below HBB.out) HRD.out).mono ?_;rintro e w2 ⟨b,rfl,-,hb2⟩;replace HBB:=lh (go3 HBB.out hb2);clear hb2;cases b)
  | (go_at_call 7;refine (HAN.out _ HBB.out).mono ?_;rintro e w3 ⟨U,d,rfl,hb3⟩;replace HBB:=lh (go3 HBB.out hb3);clear hb3))
 all_goals go_ret
 all_goals exact ⟨rfl,HBB.out⟩
theorem agT_own (A:Option Addr) (c0:Nat) (l:List St) (name c:ByteArray) (w:World) (h:STR w A c0 l) (hr:StRd l) (hm:ML w) (hc:c.size≤200) (hn:name.size≤9223372036854775807) (hs:SmOk l) {i p:Nat} {pn:ByteArray} (hf:findE l name=0) (hi:idxS l name=some i) (hpn:(namesS l (abvS l i))[0]? = some pn) (hnp:pn.size≤9223372036854775807) (hf2:findE l pn=0) (hi2:idxS l pn=some p) (hv:vwF l l.length i=none) :
 Calls Tryz.prog 4 #[.slice A l.length c0,.string name,.string c] w fun e w'=>e=.returned (.bool true)∧Below w.heap.size w w':=by
 have HST:=lh h
 have HRD:=lh hr
 have HM:=lh hm
 have HBB:=lh (Below.refl w.heap.size w)
 have hi1:decide ((200:Int)<(c.size:Int))=false:=by simp;omega
 have hl20:l.length≤100:=by have:=hs.1;omega
 have HZ:=lh hs.sz
 have HAN:=lh (fun W (hW:Below w.heap.size w W)=>ancT_some (h.below hW) hl20 hs.sz (hm.below hW) hn hf hi hpn)
 have HV1:=lh (fun W (hW:Below w.heap.size w W)=>viewT_no (h.below hW) hl20 hs.sz (hm.below hW) hn hf hi hv)
 have HV2:=lh (fun W (hW:Below w.heap.size w W)=>viewT_any (name:=pn) (h.below hW) hl20 hs.sz (hm.below hW) hnp)
 clear hv
 clear h hr hm hs hf hi hpn hf2 hi2
 go_enter Tryz.func4,Tryz.ntmps4
 go_wp2_with (first
  | (go_at_call 5;refine (awake08_any _ (HM.out.below HBB.out)).mono ?_;rintro e w1 ⟨rfl,hb1⟩;replace HBB:=lh (go3 HBB.out hb1);clear hb1)
  | (go_at_call 6;refine (smallS_any A c0 l _ (HST.out.below HBB.out) HRD.out).mono ?_;rintro e w2 ⟨b,rfl,-,hb2⟩;replace HBB:=lh (go3 HBB.out hb2);clear hb2;cases b)
  | (go_at_call 7;refine (HAN.out _ HBB.out).mono ?_;rintro e w3 ⟨b,o,n,d,h0,hnd,hd9,rfl,hu,hb3⟩;replace HBB:=lh (go3 HBB.out hb3);have HU:At (fun W=>W.cell? ⟨b,o,none⟩=some (.string pn)∧b<W.heap.size) w3:=⟨fun X Y h hb=>⟨(hb.cell (p:=⟨b,o,none⟩) h.2).trans h.1,Nat.lt_of_lt_of_le h.2 hb.size⟩,hu⟩;have hn0:((n:Int)==0)=false:=(by simp;omega);clear hb3 hu)
  | (go_at_call_of 8 (Value.string name);refine (HV1.out _ HBB.out).mono ?_;rintro e w4 ⟨rfl,hb4⟩;replace HBB:=lh (go3 HBB.out hb4);replace HU:=HU.go2 bB hb4;obtain ⟨x0,xl⟩:=HU.out;clear hb4)|(go_at_call_of 8 (Value.string pn);refine (HV2.out _ HBB.out).mono ?_;rintro e w5 ⟨B5,n5,d5,k5,rfl,hb5⟩;replace HBB:=lh (go3 HBB.out hb5);have HFF:=lh (fineB_l (x:=80) (y:=k5) (by decide));clear hb5)|(go_at_call 10;refine (fineT _ _ _ _ (BX.new _ [_,_] _ rfl)).mono ?_;rintro e w6 ⟨rfl,hb6⟩;rw [HFF.out];replace HBB:=lh (go3 (go3 HBB.out (ba _ _)) hb6);clear hb6))
 all_goals go_ret
 all_goals exact ⟨rfl,HBB.out⟩
theorem agT_par (A:Option Addr) (c0:Nat) (l:List St) (name c:ByteArray) (w:World) (h:STR w A c0 l) (hr:StRd l) (hm:ML w) (hc:c.size≤200) (hn:name.size≤9223372036854775807) (hs:SmOk l) {i p:Nat} {pn:ByteArray} (hf:findE l name=0) (hi:idxS l name=some i) (hpn:(namesS l (abvS l i))[0]? = some pn) (hnp:pn.size≤9223372036854775807) (hf2:findE l pn=0) (hi2:idxS l pn=some p) {ps:List Pc} (hv:vwF l l.length i=some ps) (hv2:vwF l l.length p=none) :
 Calls Tryz.prog 4 #[.slice A l.length c0,.string name,.string c] w fun e w'=>e=.returned (.bool true)∧Below w.heap.size w w':=by
 have HST:=lh h
 have HRD:=lh hr
 have HM:=lh hm
 have HBB:=lh (Below.refl w.heap.size w)
 have hi1:decide ((200:Int)<(c.size:Int))=false:=by simp;omega
 have hl20:l.length≤100:=by have:=hs.1;omega
 have HZ:=lh hs.sz
 have HAN:=lh (fun W (hW:Below w.heap.size w W)=>ancT_some (h.below hW) hl20 hs.sz (hm.below hW) hn hf hi hpn)
 have HV1:=lh (fun W (hW:Below w.heap.size w W)=>viewT_ok (h.below hW) hl20 hs.sz (hm.below hW) hn hf hi hv)
 have HV2:=lh (fun W (hW:Below w.heap.size w W)=>viewT_no (h.below hW) hl20 hs.sz (hm.below hW) hnp hf2 hi2 hv2)
 have HFF:=lh (fineB_r (x:=0) (y:=80) (by decide))
 clear h hr hm hs hf hi hpn hf2 hi2
 go_enter Tryz.func4,Tryz.ntmps4
 go_wp2_with (first
  | (go_at_call 5;refine (awake08_any _ (HM.out.below HBB.out)).mono ?_;rintro e w1 ⟨rfl,hb1⟩;replace HBB:=lh (go3 HBB.out hb1);clear hb1)
  | (go_at_call 6;refine (smallS_any A c0 l _ (HST.out.below HBB.out) HRD.out).mono ?_;rintro e w2 ⟨b,rfl,-,hb2⟩;replace HBB:=lh (go3 HBB.out hb2);clear hb2;cases b)
  | (go_at_call 7;refine (HAN.out _ HBB.out).mono ?_;rintro e w3 ⟨b,o,n,d,h0,hnd,hd9,rfl,hu,hb3⟩;replace HBB:=lh (go3 HBB.out hb3);have HU:At (fun W=>W.cell? ⟨b,o,none⟩=some (.string pn)∧b<W.heap.size) w3:=⟨fun X Y h hb=>⟨(hb.cell (p:=⟨b,o,none⟩) h.2).trans h.1,Nat.lt_of_lt_of_le h.2 hb.size⟩,hu⟩;have hn0:((n:Int)==0)=false:=(by simp;omega);clear hb3 hu)
  | (go_at_call_of 8 (Value.string name);refine (HV1.out _ HBB.out).mono ?_;rintro e w4 ⟨B4,d4,rfl,hs4,hb4⟩;replace HBB:=lh (go3 HBB.out hb4);replace HU:=HU.go2 bB hb4;obtain ⟨x0,xl⟩:=HU.out;have HS4:At (fun W=>SV elE W kN B4 d4 (ps.map entF)) w4:=⟨fun X Y h hb=>h.below hb,hs4⟩;clear hb4 hs4)|(go_at_call_of 8 (Value.string pn);refine (HV2.out _ HBB.out).mono ?_;rintro e w5 ⟨rfl,hb5⟩;replace HBB:=lh (go3 HBB.out hb5);clear hb5)|(go_at_call 10;refine (fineT _ _ _ _ (BX.new _ [_,_] _ rfl)).mono ?_;rintro e w6 ⟨rfl,hb6⟩;rw [HFF.out];replace HBB:=lh (go3 (go3 HBB.out (ba _ _)) hb6);clear hb6))
 all_goals go_ret
 all_goals exact ⟨rfl,HBB.out⟩
open Pm
open Go.RowKit Go.WideShapes
theorem agT_inv (A:Option Addr) (c0:Nat) (l:List St) (name c:ByteArray) (w:World) (h:STR w A c0 l) (hr:StRd l) (hm:ML w) (hc:c.size≤200) (hn:name.size≤9223372036854775807) (hs:SmOk l) {i p:Nat} {pn:ByteArray} (hf:findE l name=0) (hi:idxS l name=some i) (hpn:(namesS l (abvS l i))[0]? = some pn) (hnp:pn.size≤9223372036854775807) (hf2:findE l pn=0) (hi2:idxS l pn=some p) {ps qs:List Pc} (hv:vwF l l.length i=some ps) (hv2:vwF l l.length p=some qs) (ok1:okM (ps.map entF)) (ok2:okM (qs.map entF)) (hz:invE (ps.map entF)≠0∨invE (qs.map entF)≠0) :
 Calls Tryz.prog 4 #[.slice A l.length c0,.string name,.string c] w fun e w'=>e=.returned (.bool true)∧Below w.heap.size w w':=by
 have HST:=lh h
 have HRD:=lh hr
 have HM:=lh hm
 have HBB:=lh (Below.refl w.heap.size w)
 have hi1:decide ((200:Int)<(c.size:Int))=false:=by simp;omega
 have hl20:l.length≤100:=by have:=hs.1;omega
 have HZ:=lh hs.sz
 have HAN:=lh (fun W (hW:Below w.heap.size w W)=>ancT_some (h.below hW) hl20 hs.sz (hm.below hW) hn hf hi hpn)
 have HV1:=lh (fun W (hW:Below w.heap.size w W)=>viewT_ok (h.below hW) hl20 hs.sz (hm.below hW) hn hf hi hv)
 have HV2:=lh (fun W (hW:Below w.heap.size w W)=>viewT_ok (h.below hW) hl20 hs.sz (hm.below hW) hnp hf2 hi2 hv2)
 have HF0:Hid (fineB [0,0]=true):=lh rfl;have HI1:=lh (fun W B d (k:SV elE W kN B d (ps.map entF)) (hW:Below w.heap.size w W)=>(show Calls Tryz.prog 11 #[.slice B ps.length d] W (fun e w'=>∃ (B:Option Addr) (n d:Nat),e=.returned (.tuple #[.slice B n d,.int .i64 (invE (ps.map entF))])∧Below W.heap.size W w') from (by have h9:=invT_any k ok1 (hm.below hW);rw [List.length_map] at h9;exact h9)));have HI2:=lh (fun W B d (k:SV elE W kN B d (qs.map entF)) (hW:Below w.heap.size w W)=>(show Calls Tryz.prog 11 #[.slice B qs.length d] W (fun e w'=>∃ (B:Option Addr) (n d:Nat),e=.returned (.tuple #[.slice B n d,.int .i64 (invE (qs.map entF))])∧Below W.heap.size W w') from (by have h9:=invT_any k ok2 (hm.below hW);rw [List.length_map] at h9;exact h9)));have HFF:Hid (fineB [invE (ps.map entF),invE (qs.map entF)]=false):=lh (hz.elim fineB_l fineB_r);clear hv hv2 ok1 ok2 hz;generalize invE (ps.map entF)=E1 at *;generalize invE (qs.map entF)=E2 at *
 clear h hr hm hs hf hi hpn hf2 hi2
 go_enter Tryz.func4,Tryz.ntmps4
 go_wp2_with (first
  | (go_at_call 5;refine (awake08_any _ (HM.out.below HBB.out)).mono ?_;rintro e w1 ⟨rfl,hb1⟩;replace HBB:=lh (go3 HBB.out hb1);clear hb1)
  | (go_at_call 6;refine (smallS_any A c0 l _ (HST.out.below HBB.out) HRD.out).mono ?_;rintro e w2 ⟨b,rfl,-,hb2⟩;replace HBB:=lh (go3 HBB.out hb2);clear hb2;cases b)
  | (go_at_call 7;refine (HAN.out _ HBB.out).mono ?_;rintro e w3 ⟨b,o,n,d,h0,hnd,hd9,rfl,hu,hb3⟩;replace HBB:=lh (go3 HBB.out hb3);have HU:At (fun W=>W.cell? ⟨b,o,none⟩=some (.string pn)∧b<W.heap.size) w3:=⟨fun X Y h hb=>⟨(hb.cell (p:=⟨b,o,none⟩) h.2).trans h.1,Nat.lt_of_lt_of_le h.2 hb.size⟩,hu⟩;have hn0:((n:Int)==0)=false:=(by simp;omega);clear hb3 hu)
  | (go_at_call_of 8 (Value.string name);refine (HV1.out _ HBB.out).mono ?_;rintro e w4 ⟨B4,d4,rfl,hs4,hb4⟩;replace HBB:=lh (go3 HBB.out hb4);replace HU:=HU.go2 bB hb4;obtain ⟨x0,xl⟩:=HU.out;have HS4:At (fun W=>SV elE W kN B4 d4 (ps.map entF)) w4:=⟨fun X Y h hb=>h.below hb,hs4⟩;clear hb4 hs4)|(go_at_call_of 8 (Value.string pn);refine (HV2.out _ HBB.out).mono ?_;rintro e w5 ⟨B5,d5,rfl,hs5,hb5⟩;replace HBB:=lh (go3 HBB.out hb5);replace HU:=HU.go2 bB hb5;replace HS4:=HS4.go2 bB hb5;have HS5:At (fun W=>SV elE W kN B5 d5 (qs.map entF)) w5:=⟨fun X Y h hb=>h.below hb,hs5⟩;clear hb5 hs5 x0 xl)|(go_at_call 10;refine (fineT _ _ _ _ (BX.new _ [_,_] _ rfl)).mono ?_;rintro e w6 ⟨rfl,hb6⟩;(first|rw [HF0.out]|rw [HFF.out]);replace HBB:=lh (go3 (go3 HBB.out (ba _ _)) hb6);replace HU:=HU.go2 bB hb6;(try replace HS4:=HS4.go2 bB hb6);(try replace HS5:=HS5.go2 bB hb6);(try replace HS7:=HS7.go2 bB hb6);(try replace HS8:=HS8.go2 bB hb6);clear hb6)|(go_at_call_of 11 (Value.slice B4 ps.length d4);refine (HI1.out _ _ _ (HS4.go bB).out HBB.out).mono ?_;rintro e w7 ⟨B7,n7,d7,rfl,hb7⟩;replace HBB:=lh (go3 HBB.out hb7);replace HU:=HU.go2 bB hb7;replace HS5:=HS5.go2 bB hb7;clear hb7 HS4)|(go_at_call_of 11 (Value.slice B5 qs.length d5);refine (HI2.out _ _ _ (HS5.go bB).out HBB.out).mono ?_;rintro e w8 ⟨B8,n8,d8,rfl,hb8⟩;replace HBB:=lh (go3 HBB.out hb8);replace HU:=HU.go2 bB hb8;clear hb8 HS5))
 all_goals go_ret
 all_goals exact ⟨rfl,HBB.out⟩
theorem agT_agr (A:Option Addr) (c0:Nat) (l:List St) (name c:ByteArray) (w:World) (h:STR w A c0 l) (hr:StRd l) (hm:ML w) (hc:c.size≤200) (hn:name.size≤9223372036854775807) (hs:SmOk l) {i p:Nat} {pn:ByteArray} (hf:findE l name=0) (hi:idxS l name=some i) (hpn:(namesS l (abvS l i))[0]? = some pn) (hnp:pn.size≤9223372036854775807) (hf2:findE l pn=0) (hi2:idxS l pn=some p) {ps qs:List Pc} (hv:vwF l l.length i=some ps) (hv2:vwF l l.length p=some qs) (ok1:okM (ps.map entF)) (ok2:okM (qs.map entF)) {a b2:List En} (i1:invE (ps.map entF)=0) (i2:invE (qs.map entF)=0) (ea:(invC (ps.map entF)).1=a) (eb:(invC (qs.map entF)).1=b2) (va:∀ x∈a,InvE x) (vb:∀ x∈b2,InvE x) (la:a.length≤32) (lb:b2.length≤32) (hz:agrE a b2≠0) :
 Calls Tryz.prog 4 #[.slice A l.length c0,.string name,.string c] w fun e w'=>e=.returned (.bool true)∧Below w.heap.size w w':=by
 have HST:=lh h
 have HRD:=lh hr
 have HM:=lh hm
 have HBB:=lh (Below.refl w.heap.size w)
 have hi1:decide ((200:Int)<(c.size:Int))=false:=by simp;omega
 have hl20:l.length≤100:=by have:=hs.1;omega
 have HZ:=lh hs.sz
 have HAN:=lh (fun W (hW:Below w.heap.size w W)=>ancT_some (h.below hW) hl20 hs.sz (hm.below hW) hn hf hi hpn)
 have HV1:=lh (fun W (hW:Below w.heap.size w W)=>viewT_ok (h.below hW) hl20 hs.sz (hm.below hW) hn hf hi hv)
 have HV2:=lh (fun W (hW:Below w.heap.size w W)=>viewT_ok (h.below hW) hl20 hs.sz (hm.below hW) hnp hf2 hi2 hv2)
 have HF0:Hid (fineB [0,0]=true):=lh rfl;have HFF:=lh (fineB_l (x:=1) (y:=0) (by decide));have HI1:=lh (fun W B d (k:SV elE W kN B d (ps.map entF)) (hW:Below w.heap.size w W)=>(show Calls Tryz.prog 11 #[.slice B ps.length d] W (fun e w'=>∃ B d,e=.returned (.tuple #[.slice B a.length d,.int .i64 0])∧SV elE w' kN B d a∧Below W.heap.size W w') from (by have h9:=invT_ok k ok1 (hm.below hW) i1;rw [List.length_map,ea] at h9;exact h9)));have HI2:=lh (fun W B d (k:SV elE W kN B d (qs.map entF)) (hW:Below w.heap.size w W)=>(show Calls Tryz.prog 11 #[.slice B qs.length d] W (fun e w'=>∃ B d,e=.returned (.tuple #[.slice B b2.length d,.int .i64 0])∧SV elE w' kN B d b2∧Below W.heap.size W w') from (by have h9:=invT_ok k ok2 (hm.below hW) i2;rw [List.length_map,eb] at h9;exact h9)));have HAG:=lh (fun W B d B' d' (k:SV elE W kN B d a) (k':SV elE W kN B' d' b2) (hW:Below w.heap.size w W)=>(agrT k k' va vb la lb (hm.below hW)).mono fun e w' h9=>h9.1 hz);have hzb:(agrE a b2 != 0)=true:=(by simpa using hz);clear hv hv2 ok1 ok2 i1 i2 ea eb va vb hz;generalize agrE a b2=E1 at *
 clear h hr hm hs hf hi hpn hf2 hi2
 go_enter Tryz.func4,Tryz.ntmps4
 go_wp2_with (first
  | (go_at_call 5;refine (awake08_any _ (HM.out.below HBB.out)).mono ?_;rintro e w1 ⟨rfl,hb1⟩;replace HBB:=lh (go3 HBB.out hb1);clear hb1)
  | (go_at_call 6;refine (smallS_any A c0 l _ (HST.out.below HBB.out) HRD.out).mono ?_;rintro e w2 ⟨b,rfl,-,hb2⟩;replace HBB:=lh (go3 HBB.out hb2);clear hb2;cases b)
  | (go_at_call 7;refine (HAN.out _ HBB.out).mono ?_;rintro e w3 ⟨b,o,n,d,h0,hnd,hd9,rfl,hu,hb3⟩;replace HBB:=lh (go3 HBB.out hb3);have HU:At (fun W=>W.cell? ⟨b,o,none⟩=some (.string pn)∧b<W.heap.size) w3:=⟨fun X Y h hb=>⟨(hb.cell (p:=⟨b,o,none⟩) h.2).trans h.1,Nat.lt_of_lt_of_le h.2 hb.size⟩,hu⟩;have hn0:((n:Int)==0)=false:=(by simp;omega);clear hb3 hu)
  | (go_at_call_of 8 (Value.string name);refine (HV1.out _ HBB.out).mono ?_;rintro e w4 ⟨B4,d4,rfl,hs4,hb4⟩;replace HBB:=lh (go3 HBB.out hb4);replace HU:=HU.go2 bB hb4;obtain ⟨x0,xl⟩:=HU.out;have HS4:At (fun W=>SV elE W kN B4 d4 (ps.map entF)) w4:=⟨fun X Y h hb=>h.below hb,hs4⟩;clear hb4 hs4)|(go_at_call_of 8 (Value.string pn);refine (HV2.out _ HBB.out).mono ?_;rintro e w5 ⟨B5,d5,rfl,hs5,hb5⟩;replace HBB:=lh (go3 HBB.out hb5);replace HU:=HU.go2 bB hb5;replace HS4:=HS4.go2 bB hb5;have HS5:At (fun W=>SV elE W kN B5 d5 (qs.map entF)) w5:=⟨fun X Y h hb=>h.below hb,hs5⟩;clear hb5 hs5 x0 xl)|(go_at_call 10;refine (fineT _ _ _ _ (BX.new _ [_,_] _ rfl)).mono ?_;rintro e w6 ⟨rfl,hb6⟩;(first|rw [HF0.out]|rw [HFF.out]);replace HBB:=lh (go3 (go3 HBB.out (ba _ _)) hb6);replace HU:=HU.go2 bB hb6;(try replace HS4:=HS4.go2 bB hb6);(try replace HS5:=HS5.go2 bB hb6);(try replace HS7:=HS7.go2 bB hb6);(try replace HS8:=HS8.go2 bB hb6);clear hb6)|(go_at_call_of 11 (Value.slice B4 ps.length d4);refine (HI1.out _ _ _ (HS4.go bB).out HBB.out).mono ?_;rintro e w7 ⟨B7,d7,rfl,hs7,hb7⟩;replace HBB:=lh (go3 HBB.out hb7);replace HU:=HU.go2 bB hb7;replace HS5:=HS5.go2 bB hb7;have HS7:At (fun W=>SV elE W kN B7 d7 a) w7:=⟨fun X Y h hb=>h.below hb,hs7⟩;clear hb7 hs7 HS4)|(go_at_call_of 11 (Value.slice B5 qs.length d5);refine (HI2.out _ _ _ (HS5.go bB).out HBB.out).mono ?_;rintro e w8 ⟨B8,d8,rfl,hs8,hb8⟩;replace HBB:=lh (go3 HBB.out hb8);replace HU:=HU.go2 bB hb8;replace HS7:=HS7.go2 bB hb8;have HS8:At (fun W=>SV elE W kN B8 d8 b2) w8:=⟨fun X Y h hb=>h.below hb,hs8⟩;clear hb8 hs8 HS5)|(go_at_call 16;refine (HAG.out _ _ _ _ _ (HS7.go bB).out (HS8.go bB).out HBB.out).mono ?_;rintro e w9 ⟨rfl,hb9⟩;replace HBB:=lh (go3 HBB.out hb9);clear hb9))
 all_goals go_ret
 all_goals exact ⟨rfl,HBB.out⟩
end Go.Proofs.YtelkmeiepliecaaGreatDoor

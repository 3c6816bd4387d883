/-
  Part 44 of the proof.
-/
import Derived.Test.YtelkmeiepliecaaGreatDoorU43
import Derived.Test.YtelkmeiepliecaaGreatDoorU42
set_option linter.unusedSimpArgs false
set_option linter.unusedVariables false
set_option maxHeartbeats 16000000
namespace Go.Proofs.YtelkmeiepliecaaGreatDoor
open Pm
open Go.RowKit Go.WideShapes
def RB (w:World) (b:Nat) (l r:Pn) (B:Option Addr) (d:Nat) (C:Option Addr) (n:Nat):Prop:=BX w b [.bool false,.slice B l.1.length d,.bool l.2,.slice C r.1.length n,.bool r.2]∧RT w B d l.1∧RT w C n r.1
theorem RB.below {w w':World} {b:Nat} {l r:Pn} {B C:Option Addr} {d n:Nat} (h:RB w b l r B d C n) (hb:Below w.heap.size w w'):RB w' b l r B d C n:=⟨h.1.below hb,h.2.1.below hb,h.2.2.below hb⟩
theorem vleft1_any (gs:Nat) (s:ByteArray) (l r:Pn) (B:Option Addr) (d:Nat) (C:Option Addr) (n:Nat) (W:World) (hs:BX W gs [.string s]) (hz:s.size≤5000) (hm:ML W) (hb:RT W B d l.1) (hc:RT W C n r.1) (zl:szN 5000 l) (zr:szN 5000 r) :
 Calls Tryz.prog 79 #[.agg #[.bool false,.slice B l.1.length d,.bool l.2,.slice C r.1.length n,.bool r.2],.pointer (some ⟨gs,0,none⟩)] W fun e w'=>e=.returned (.bool (mt l s))∧Below W.heap.size W w':=by
 have HMT:=lh (fun W h hm=>match_q B d (Prod.fst l) (Prod.snd l) s W h (fun y hh=>Nat.le_trans (zl y hh) (by omega)) hz hm)
 have HQ:At (fun w'=>BX w' W.heap.size [.bool false,.slice B l.1.length d,.bool l.2,.slice C r.1.length n,.bool r.2]∧BX w' gs [.string s]∧RT w' B d (Prod.fst l)∧ML w'∧Below W.heap.size W w') (W.alloc (.cells #[.bool false,.slice B l.1.length d,.bool l.2,.slice C r.1.length n,.bool r.2] 57)) :=
  ⟨fun X Y h hb=>⟨h.1.below hb,h.2.1.below hb,h.2.2.1.below hb,h.2.2.2.1.below hb,go3 h.2.2.2.2 hb⟩,BX.new W _ _ rfl,hs.below (ba _ _),hb.below (ba _ _),hm.below (ba _ _),ba _ _⟩
 have s0:=HQ.out.2.1.c1
 have hg:gs<W.heap.size:=hs.2.2
 have HE:Hid (mt l s=mt (Prod.fst l,Prod.snd l) s):=lh rfl
 clear hs hm hb hc
 rw [HE.out]
 generalize mt (Prod.fst l,Prod.snd l) s=q at *
 clear HE
 go_enter Tryz.func79,Tryz.ntmps79
 go_wp2_with (go_at_call 70;refine (HMT.out _ HQ.out.2.2.1 HQ.out.2.2.2.1).mono ?_;rintro e w1 ⟨v,rfl,hb⟩;replace HQ:=HQ.go2 bB hb;clear hb)
 go_ret
 exact ⟨rfl,HQ.out.2.2.2.2⟩
theorem vright1_any (gs:Nat) (s:ByteArray) (l r:Pn) (B:Option Addr) (d:Nat) (C:Option Addr) (n:Nat) (W:World) (hs:BX W gs [.string s]) (hz:s.size≤5000) (hm:ML W) (hb:RT W B d l.1) (hc:RT W C n r.1) (zl:szN 5000 l) (zr:szN 5000 r) :
 Calls Tryz.prog 80 #[.agg #[.bool false,.slice B l.1.length d,.bool l.2,.slice C r.1.length n,.bool r.2],.pointer (some ⟨gs,0,none⟩)] W fun e w'=>e=.returned (.bool (mt r s))∧Below W.heap.size W w':=by
 have HMT:=lh (fun W h hm=>match_q C n (Prod.fst r) (Prod.snd r) s W h (fun y hh=>Nat.le_trans (zr y hh) (by omega)) hz hm)
 have HQ:At (fun w'=>BX w' W.heap.size [.bool false,.slice B l.1.length d,.bool l.2,.slice C r.1.length n,.bool r.2]∧BX w' gs [.string s]∧RT w' C n (Prod.fst r)∧ML w'∧Below W.heap.size W w') (W.alloc (.cells #[.bool false,.slice B l.1.length d,.bool l.2,.slice C r.1.length n,.bool r.2] 57)) :=
  ⟨fun X Y h hb=>⟨h.1.below hb,h.2.1.below hb,h.2.2.1.below hb,h.2.2.2.1.below hb,go3 h.2.2.2.2 hb⟩,BX.new W _ _ rfl,hs.below (ba _ _),hc.below (ba _ _),hm.below (ba _ _),ba _ _⟩
 have s0:=HQ.out.2.1.c1
 have hg:gs<W.heap.size:=hs.2.2
 have HE:Hid (mt r s=mt (Prod.fst r,Prod.snd r) s):=lh rfl
 clear hs hm hb hc
 rw [HE.out]
 generalize mt (Prod.fst r,Prod.snd r) s=q at *
 clear HE
 go_enter Tryz.func80,Tryz.ntmps80
 go_wp2_with (go_at_call 70;refine (HMT.out _ HQ.out.2.2.1 HQ.out.2.2.2.1).mono ?_;rintro e w1 ⟨v,rfl,hb⟩;replace HQ:=HQ.go2 bB hb;clear hb)
 go_ret
 exact ⟨rfl,HQ.out.2.2.2.2⟩
theorem vleft_any (s:ByteArray) (w:World):Calls Tryz.prog 47 #[.string s] w fun e w'=>e=.returned (.func (.func 79) #[] #[.pointer (some ⟨w.heap.size,0,none⟩)])∧BX w' w.heap.size [.string s]∧Below w.heap.size w w':=by
 go_enter Tryz.func47,Tryz.ntmps47
 go_wp2_with fail
 go_ret
 exact ⟨rfl,BX.new w [_] _ rfl,bB⟩
theorem vright_any (s:ByteArray) (w:World):Calls Tryz.prog 48 #[.string s] w fun e w'=>e=.returned (.func (.func 80) #[] #[.pointer (some ⟨w.heap.size,0,none⟩)])∧BX w' w.heap.size [.string s]∧Below w.heap.size w w':=by
 go_enter Tryz.func48,Tryz.ntmps48
 go_wp2_with fail
 go_ret
 exact ⟨rfl,BX.new w [_] _ rfl,bB⟩
theorem vlastL_any (gs:Nat) (s:ByteArray) (b:Nat) (l r:Pn) (B:Option Addr) (d:Nat) (C:Option Addr) (n:Nat) (w:World) (h:RB w b l r B d C n) (hs:BX w gs [.string s]) (hz:s.size≤5000) (hm:ML w) (zl:szN 5000 l) (zr:szN 5000 r) (hmt:mt l s=true) :
 Calls Tryz.prog 46 #[.slice (some ⟨b,0,none⟩) 1 1,.func (.func 79) #[] #[.pointer (some ⟨gs,0,none⟩)]] w fun e w'=>e=.returned (.int .i64 0)∧Below w.heap.size w w':=by
 have HB:=lh h
 have HC:=lh (fun W (hW:Below w.heap.size w W)=>vleft1_any gs s l r B d C n W (hs.below hW) hz (hm.below hW) (h.2.1.below hW) (h.2.2.below hW) zl zr)
 rw [hmt] at HC
 obtain ⟨x0,x1,x2,x3,x4⟩:=h.1.c5
 have hlb:=h.1.2.2
 clear h hs hm hz hmt
 go_enter Tryz.func46,Tryz.ntmps46
 go_wp2_with fail
 go_loopw [5] (fun s5 wr=>s5=.int .i64 0∧Hid (Below w.heap.size w wr)) (fun _ _=>0)
 case atStart=>exact ⟨rfl,lh (Below.refl _ _)⟩
 case round =>
  obtain ⟨rfl,HW⟩:=hrel
  obtain ⟨x0,x1,x2,x3,x4⟩:=(HB.out.below HW.out).1.c5
  have hlb2:=(HB.out.below HW.out).1.2.2
  go_wp2_with (go_at_call 79;refine (HC.out _ HW.out).mono ?_;rintro e w1 ⟨rfl,hb⟩;have HB1:=lh (go3 HW.out hb);clear hb)
  go_ret
  exact ⟨rfl,HB1.out⟩
theorem vlastR_any (gs:Nat) (s:ByteArray) (b:Nat) (l r:Pn) (B:Option Addr) (d:Nat) (C:Option Addr) (n:Nat) (w:World) (h:RB w b l r B d C n) (hs:BX w gs [.string s]) (hz:s.size≤5000) (hm:ML w) (zl:szN 5000 l) (zr:szN 5000 r) (hmt:mt r s=true) :
 Calls Tryz.prog 46 #[.slice (some ⟨b,0,none⟩) 1 1,.func (.func 80) #[] #[.pointer (some ⟨gs,0,none⟩)]] w fun e w'=>e=.returned (.int .i64 0)∧Below w.heap.size w w':=by
 have HB:=lh h
 have HC:=lh (fun W (hW:Below w.heap.size w W)=>vright1_any gs s l r B d C n W (hs.below hW) hz (hm.below hW) (h.2.1.below hW) (h.2.2.below hW) zl zr)
 rw [hmt] at HC
 obtain ⟨x0,x1,x2,x3,x4⟩:=h.1.c5
 have hlb:=h.1.2.2
 clear h hs hm hz hmt
 go_enter Tryz.func46,Tryz.ntmps46
 go_wp2_with fail
 go_loopw [5] (fun s5 wr=>s5=.int .i64 0∧Hid (Below w.heap.size w wr)) (fun _ _=>0)
 case atStart=>exact ⟨rfl,lh (Below.refl _ _)⟩
 case round =>
  obtain ⟨rfl,HW⟩:=hrel
  obtain ⟨x0,x1,x2,x3,x4⟩:=(HB.out.below HW.out).1.c5
  have hlb2:=(HB.out.below HW.out).1.2.2
  go_wp2_with (go_at_call 80;refine (HC.out _ HW.out).mono ?_;rintro e w1 ⟨rfl,hb⟩;have HB1:=lh (go3 HW.out hb);clear hb)
  go_ret
  exact ⟨rfl,HB1.out⟩
theorem vcheck_any (b:Nat) (l r:Pn) (B:Option Addr) (d:Nat) (C:Option Addr) (n:Nat) (w:World) (h:RB w b l r B d C n) (hm:ML w) (zl:szN 5000 l) (zr:szN 5000 r) (hok:rlOk l r) :
 Calls Tryz.prog 78 #[.slice (some ⟨b,0,none⟩) 1 1] w fun e w'=>e=.returned (.tuple #[.int .i64 0,.int .i64 0])∧Below w.heap.size w w':=by
 have HB:=lh h
 have HC:=lh (fun W (hW:Below w.heap.size w W)=>ruleCheck_any false B C d n l.1 r.1 l.2 r.2 W (h.2.1.below hW) (h.2.2.below hW) (hm.below hW) zl zr)
 rw [show ruleE l.1 l.2 r.1 r.2=0 from hok] at HC
 unfold ruV at HC
 clear h hm hok
 go_enter Tryz.func78,Tryz.ntmps78
 go_wp2_with fail
 go_loopw [8] (fun s8 wr=>∃ k:Nat,k≤1∧s8=.int .i64 k∧Hid (Below w.heap.size w wr)) (fun s8 _=>1-(intOf s8).toNat)
 case atStart=>exact ⟨0,by omega,rfl,lh (Below.refl _ _)⟩
 case round =>
  obtain ⟨k,hk,rfl,HW⟩:=hrel
  obtain ⟨x0,x1,x2,x3,x4⟩:=(HB.out.below HW.out).1.c5
  have hlb2:=(HB.out.below HW.out).1.2.2
  by_cases hlt:k<1
  ·obtain rfl:k=0:=by omega
   go_wp2_with (go_at_call 60;refine (HC.out _ (go3 HW.out bB)).mono ?_;rintro e w1 ⟨rfl,hb⟩;have HB1:=lh (go3 (go3 HW.out bB) hb);clear hb)
   go_roundw
   case rel=>exact ⟨1,by omega,by go_num,HB1⟩
   case measure=>simp [intOf]
  ·obtain rfl:k=1:=by omega
   go_wp2_with fail
   go_ret2
   exact ⟨rfl,HW.out⟩
theorem vvalid_any (b:Nat) (l r:Pn) (B:Option Addr) (d:Nat) (C:Option Addr) (n:Nat) (w:World) (h:RB w b l r B d C n) (hm:ML w) (zl:szN 5000 l) (zr:szN 5000 r) (hok:rlOk l r) :
 Calls Tryz.prog 45 #[.slice (some ⟨b,0,none⟩) 1 1] w fun e w'=>e=.returned (.bool true)∧Below w.heap.size w w':=by
 have HC:=lh (fun W (hW:Below w.heap.size w W)=>vcheck_any b l r B d C n W (h.below hW) (hm.below hW) zl zr hok)
 clear h hm hok
 go_enter Tryz.func45,Tryz.ntmps45
 go_wp2_with (go_at_call 78;refine (HC.out _ bB).mono ?_;rintro e w1 ⟨rfl,hb⟩;have HB1:=lh hb;clear hb)
 go_ret
 exact ⟨rfl,HB1.out⟩
theorem vforward_any (b:Nat) (l r:Pn) (B:Option Addr) (d:Nat) (C:Option Addr) (n:Nat) (s t:ByteArray) (w:World) (h:RB w b l r B d C n) (hm:ML w) (zl:szN 5000 l) (zr:szN 5000 r) (hok:rlOk l r) (hz:s.size≤5000) (ht:t.size≤5000) (hf:fO l r s=true) (he:fT l r s=t) :
 Calls Tryz.prog 18 #[.slice (some ⟨b,0,none⟩) 1 1,.string s] w fun e w'=>e=.returned (.tuple #[.string t,.bool true])∧Below w.heap.size w w':=by
 have hml:mt l s=true:=by rw [←fO_mt hok];exact hf
 have hmr:mt r t=true:=by
  obtain ⟨h1,_⟩:=f_turn hf he
  rw [←fO_mt (rlOk_turn.1 hok)]
  exact h1
 have HV:=lh (fun W (hW:Below w.heap.size w W)=>vvalid_any b l r B d C n W (h.below hW) (hm.below hW) zl zr hok)
 have HM1:=lh (fun W=>vleft_any s W)
 have HM2:=lh (fun W=>vright_any t W)
 have HL1:=lh (fun gs W (hW:Below w.heap.size w W) (hg:BX W gs [.string s])=>vlastL_any gs s b l r B d C n W (h.below hW) hg hz (hm.below hW) zl zr hml)
 have HL2:=lh (fun gs W (hW:Below w.heap.size w W) (hg:BX W gs [.string t])=>vlastR_any gs t b l r B d C n W (h.below hW) hg ht (hm.below hW) zl zr hmr)
 have HF:=lh (fun W (hW:Below w.heap.size w W)=>forward_any false B C d n l.1 r.1 l.2 r.2 s W (h.2.1.below hW) (h.2.2.below hW) (hm.below hW) zl zr hz)
 rw [show fwdO l.1 l.2 r.1 r.2 s=true from hf,show fwdT l.1 l.2 r.1 r.2 s=t from he] at HF
 unfold ruV at HF
 have HQ:At (fun W=>RB W b l r B d C n∧Below w.heap.size w W) w:=⟨fun X Y h hb=>⟨h.1.below hb,go3 h.2 hb⟩,h,Below.refl _ _⟩
 clear h hm hok hf he hml hmr
 obtain ⟨x0,x1,x2,x3,x4⟩:=HQ.out.1.1.c5
 have hlb:=HQ.out.1.1.2.2
 go_enter Tryz.func18,Tryz.ntmps18
 go_upto_region 7 with (first
  | (go_at_call 45;refine (HV.out _ bB).mono ?_;rintro e w1 ⟨rfl,hb1⟩;replace HQ:=HQ.go2 bB hb1;clear hb1 x0 x1 x2 x3 x4 hlb;obtain ⟨x0,x1,x2,x3,x4⟩:=HQ.out.1.1.c5;have hlb:=HQ.out.1.1.2.2)
  | (go_at_call 47;refine (HM1.out _).mono ?_;rintro e w2 ⟨rfl,hg2,hb2⟩;have HG2:=lh hg2;replace HQ:=HQ.go2 bB hb2;clear hg2 hb2 x0 x1 x2 x3 x4 hlb;obtain ⟨x0,x1,x2,x3,x4⟩:=HQ.out.1.1.c5;have hlb:=HQ.out.1.1.2.2)
  | (go_at_call 46;refine (HL1.out _ _ HQ.out.2 HG2.out).mono ?_;rintro e w3 ⟨rfl,hb3⟩;replace HQ:=HQ.go2 bB hb3;clear hb3 x0 x1 x2 x3 x4 hlb;obtain ⟨x0,x1,x2,x3,x4⟩:=HQ.out.1.1.c5;have hlb:=HQ.out.1.1.2.2)
  | (go_at_call 37;refine (HF.out _ (HQ.go bB).out.2).mono ?_;rintro e w4 ⟨rfl,hb4⟩;replace HQ:=HQ.go2 bB hb4;clear hb4 x0 x1 x2 x3 x4 hlb))
 go_wp2_with (first
  | (go_at_call 48;refine (HM2.out _).mono ?_;rintro e w5 ⟨rfl,hg5,hb5⟩;have HG5:=lh hg5;replace HQ:=HQ.go2 bB hb5;clear hg5 hb5)
  | (go_at_call 46;refine (HL2.out _ _ HQ.out.2 HG5.out).mono ?_;rintro e w6 ⟨rfl,hb6⟩;replace HQ:=HQ.go2 bB hb6;clear hb6))
 go_ret2
 exact ⟨rfl,HQ.out.2⟩
open Pm
open Go.RowKit Go.WideShapes
theorem pcs_hv {l:List St} (hz:SzS l) (hg:GoodS l) (i:Nat) (ps:List Pc) (h:pcsF l l.length i=some ps):ps.length≤32∧∀ q∈ps,VzOk q:=⟨pcsF_len h,vz_of hg hz hg.len h⟩
theorem pcs_hpc {l:List St} (hl:l.length≤100) (hz:SzS l) (hg:GoodS l) (c0 g m:Nat) (A:Option Addr) (i:Nat) (W:World) (h:FO W g m A c0 l) (hi:i<l.length) (hm:ML W):Calls Tryz.prog 52 #[.pointer (some ⟨g,0,none⟩),.int .i64 i] W (RetPc W (pcsF l l.length i)) :=
 pieces_any g m A c0 l hl hz (fun s hs=>by
  obtain ⟨j,hj⟩:=List.mem_iff_getElem?.1 hs
  exact (hg.ln j s hj).2) (fun n hn i ps hp=>vz_of hg hz hn hp) l.length i W hg.len h hi (hg.okF hi) hm
theorem ViewS_any (A:Option Addr) (c0:Nat) (l:List St) (name:ByteArray) (w:World) (h:STR w A c0 l) (hl:l.length≤100) (hz:SzS l) (hm:ML w) (hn:name.size≤9223372036854775807) :
 Calls Tryz.prog 8 #[.slice A l.length c0,.string name] w (RetVi w (vewF l name)) :=
 View_any A c0 l name w h hl hz hm hn (fun hg=>pcs_hv hz hg) (fun hg g m i W hF hi hM=>pcs_hpc hl hz hg c0 g m A i W hF hi hM)
theorem betS_any (A:Option Addr) (c0:Nat) (l:List St) (name:ByteArray) (w:World) (h:STR w A c0 l) (hl:l.length≤100) (hz:SzS l) (hm:ML w) (hn:name.size≤9223372036854775807) :
 Calls Tryz.prog 9 #[.slice A l.length c0,.string name] w (RetBw w (betF l name)) :=
 between_any A c0 l name w h hl hz hm hn (fun hg=>pcs_hv hz hg) (fun hg g m A i W hF hi hM=>pcs_hpc hl hz hg c0 g m A i W hF hi hM)
def wVe:List En:=[(([devN],true),([viewN],true),[])]
theorem w_str {w:World} {g0 g1 g2:Nat} (h0:BX w g0 [.string viewN]) (h1:BX w g1 [.int .i64 1,.slice (some ⟨g0,0,none⟩) 1 1,.bool true,.slice none 0 0,.bool false]) (h2:BX w g2 [.string mainN,.string ⟨#[]⟩,.slice (some ⟨g1,0,none⟩) 1 1,.string devN,.string mainN,.slice (some ⟨g1,0,none⟩) 1 1]):STR w (some ⟨g2,0,none⟩) 2 wls:=by
 have hsv:SV elL w kN (some ⟨g1,0,none⟩) 1 [wln]:=⟨[[.int .i64 1,.slice (some ⟨g0,0,none⟩) 1 1,.bool true,.slice none 0 0,.bool false]],RR.of_bx h1 (fun r hr=>by rw [List.mem_singleton.1 hr];rfl) (Nat.le_refl _) (by omega),Rel.single ⟨some ⟨g0,0,none⟩,1,none,0,rfl,rt_lit h0,RT.nil _ _ _ (by omega)⟩,fun _ _ _ h=>h⟩
 refine ⟨Nat.le_refl _,by omega,fun _=>⟨g2,0,rfl,h2.2.2,fun j s hj=>?_⟩⟩
 match j,hj with
 | 0,hj=>cases hj;exact ⟨_,_,h2.1 0 _ rfl,h2.1 1 _ rfl,h2.1 2 _ rfl,hsv⟩
 | 1,hj=>cases hj;exact ⟨_,_,h2.1 3 _ rfl,h2.1 4 _ rfl,h2.1 5 _ rfl,hsv⟩
 | j+2,hj=>simp [wls] at hj
theorem BX.nx1 (w:World) (o:Obj) (cs:List Value) (T:TypeId):BX ((w.alloc o).alloc (.cells cs.toArray T)) (w.heap.size+1) cs:=BX.new _ _ _ (by simp)
theorem BX.nx2 (w:World) (o p:Obj) (cs:List Value) (T:TypeId):BX (((w.alloc o).alloc p).alloc (.cells cs.toArray T)) (w.heap.size+1+1) cs:=BX.new _ _ _ (by simp)
set_option maxRecDepth 100000 in
theorem awake08_any (w:World) (hm:ML w):Calls Tryz.prog 5 #[] w fun e w'=>e=.returned (.bool true)∧Below w.heap.size w w':=by
 have HQ:At (fun W=>STR W (some ⟨w.heap.size+1+1,0,none⟩) 2 wls∧ML W∧Below w.heap.size w W) (((w.alloc (.cells #[.string viewN] 9)).alloc (.cells #[.int .i64 1,.slice (some ⟨w.heap.size,0,none⟩) 1 1,.bool true,.slice none 0 0,.bool false] 51)).alloc (.cells #[.string mainN,.string ⟨#[]⟩,.slice (some ⟨w.heap.size+1,0,none⟩) 1 1,.string devN,.string mainN,.slice (some ⟨w.heap.size+1,0,none⟩) 1 1] 54)) :=
  ⟨fun X Y h hb=>⟨h.1.below hb,h.2.1.below hb,go3 h.2.2 hb⟩,w_str (g0:=w.heap.size) (g1:=w.heap.size+1) (g2:=w.heap.size+1+1) ((BX.new w [_] _ rfl).below bB) ((BX.nx1 w _ [_,_,_,_,_] _).below bB) (BX.nx2 w _ _ [_,_,_,_,_,_] _),hm.below bB,bB⟩
 have HBW:=lh (fun W (h:STR W (some ⟨w.heap.size+1+1,0,none⟩) 2 wls) (hm:ML W)=>(betS_any (some ⟨w.heap.size+1+1,0,none⟩) 2 wls devN W h (by decide) w_sz hm (by decide +kernel)).mono fun e w' k=>(show ∃ B d,e=.returned (.tuple #[.slice B 1 d,.int .i64 0])∧SV elE w' kN B d wEs∧Below W.heap.size W w' from k.1 wEs (by rw [w_bet])))
 have HVI:=lh (fun W (h:STR W (some ⟨w.heap.size+1+1,0,none⟩) 2 wls) (hm:ML W)=>(ViewS_any (some ⟨w.heap.size+1+1,0,none⟩) 2 wls devN W h (by decide) w_sz hm (by decide +kernel)).mono fun e w' k=>(show ∃ B d,e=.returned (.tuple #[.slice B 1 d,.int .i64 0])∧SV elE w' kN B d wVe∧Below W.heap.size W w' from by
  obtain ⟨B,d,h1,h2,h3⟩:=k.1 [wPc devN] (by rw [w_view])
  refine ⟨B,d,h1,?_,h3⟩
  have e1:[wPc devN].map entF=wVe:=by show [entF (wPc devN)]=_;rw [w_ent];rfl
  rw [e1] at h2
  exact h2))
 have HF1:=lh (fun W B d (h:SV elE W kN B d wEs) (hm:ML W)=>(show Calls Tryz.prog 15 #[.slice B 1 d,.string ⟨#[47,47,100,101,118,47,97]⟩] W (fun x w'=>x=.returned (.tuple #[.string ⟨#[47,47,109,97,105,110,47,97]⟩,.bool true])∧Below W.heap.size W w') from by
  have h9:=mforward_any wEs pDev kN B d W h w_ok1 (by decide +kernel) hm
  rw [w_for1] at h9
  exact h9))
 have HF2:=lh (fun W B d (h:SV elE W kN B d wVe) (hm:ML W)=>(show Calls Tryz.prog 15 #[.slice B 1 d,.string ⟨#[47,47,100,101,118,47,97]⟩] W (fun x w'=>x=.returned (.tuple #[.string ⟨#[47,47,118,105,101,119,47,97]⟩,.bool true])∧Below W.heap.size W w') from by
  have h9:=mforward_any wVe pDev kN B d W h w_ok2 (by decide +kernel) hm
  rw [show forM wVe pDev=(pView,true) from w_for2] at h9
  exact h9))
 have HVF:=lh (fun W b B C (h:RB W b lD rD B 1 C 1) (hm:ML W)=>(show Calls Tryz.prog 18 #[.slice (some ⟨b,0,none⟩) 1 1,.string ⟨#[47,47,100,47,97]⟩] W (fun e w'=>e=.returned (.tuple #[.string ⟨#[47,47,99,47,97]⟩,.bool true])∧Below W.heap.size W w') from
  vforward_any b lD rD B 1 C 1 pD pC W h hm (fun x hx=>by rw [List.mem_singleton.1 hx];decide +kernel) (fun x hx=>by rw [List.mem_singleton.1 hx];decide +kernel) w_rl (by decide +kernel) (by decide +kernel) w_f.1 w_f.2))
 have HFI:=lh (fun W g (h:BX W g [.int .i64 0,.int .i64 0])=>(show Calls Tryz.prog 10 #[.slice (some ⟨g,0,none⟩) 2 2] W (fun e w'=>e=.returned (.bool true)∧Below W.heap.size W w') from fine_any [0,0] g 2 W h (Nat.le_refl _) (by omega)))
 simp only [devN,mainN,viewN] at HBW HVI HQ
 clear hm
 go_enter Tryz.func5,Tryz.ntmps5
 go_upto_region 5 with (first
  | (go_at_call 9;refine (HBW.out _ HQ.out.1 HQ.out.2.1).mono ?_;rintro e w1 ⟨B1,d1,rfl,hs1,hb1⟩;replace HQ:=HQ.go2 bB hb1;have HS1:=lh hs1;clear hb1 hs1)
  | (go_at_call 15;refine (HF1.out _ _ _ HS1.out HQ.out.2.1).mono ?_;rintro e w2 ⟨rfl,hb2⟩;replace HQ:=HQ.go2 bB hb2;clear hb2))
 go_wp2_with (first
  | (go_at_call 8;refine (HVI.out _ HQ.out.1 HQ.out.2.1).mono ?_;rintro e w3 ⟨B3,d3,rfl,hs3,hb3⟩;replace HQ:=HQ.go2 bB hb3;have HS3:=lh hs3;clear hb3 hs3)
  | (go_at_call 15;refine (HF2.out _ _ _ HS3.out HQ.out.2.1).mono ?_;rintro e w4 ⟨rfl,hb4⟩;replace HQ:=HQ.go2 bB hb4;clear hb4)
  | (go_at_call 18;(refine (HVF.out _ (w4.heap.size+1+1) (some ⟨w4.heap.size,0,none⟩) (some ⟨w4.heap.size+1,0,none⟩) ⟨BX.nx2 w4 _ _ [_,_,_,_,_] _,(rt_lit ((BX.new w4 [_] _ rfl).below bB)),(rt_lit ((BX.nx1 w4 _ [_] _).below bB))⟩ (HQ.go bB).out.2.1).mono ?_);rintro e w5 ⟨rfl,hb5⟩;replace HQ:=HQ.go2 bB hb5;clear hb5)
  | (go_at_call 10;refine (HFI.out _ _ (BX.new _ [_,_] _ (by simp))).mono ?_;rintro e w6 ⟨rfl,hb6⟩;replace HQ:=HQ.go2 bB hb6;clear hb6))
 go_ret
 exact ⟨rfl,HQ.out.2.2⟩
open Pm
open Go.RowKit Go.WideShapes
theorem run_append_big (w:World) (base:Nat) (v:Value) (xs ys:List ByteArray) (A:Option Addr) (c:Nat) (ty:TypeId) (hown:OT w base v xs) (hr:RT w A c ys)
 (hlen:xs.length+ys.length≤3000000) (hbase:base≤w.heap.size) :
 ∃ v' w',(Builtin.append_ #[25,25] ty #[v,.slice A ys.length c]).run Tryz.prog w=.ok v' w'∧OT w' base v' (xs++ys)∧w.grownBy w' v.ownBlock ∧
  (v'.ownBlock=v.ownBlock∨v'.ownBlock=some w.heap.size):=by
 obtain ⟨i,hi,hz,h1,h2⟩:=info_parts textInfo
 rcases A with _|ad
 ·have hy:ys=[]:=by
   cases ys with
   | nil=>rfl
   | cons y ys =>
    obtain ⟨b,o,e,_⟩:=hr.2.2 (by simp)
    cases e
  subst hy
  exact ⟨v,w,run_append_none w base v xs hown c ty,by simpa using hown,World.grownBy.refl w _,.inl rfl⟩
 ·have hcells:∀ j u,(ys.map Value.string)[j]? = some u→w.cell? (ad.add j)=some u:=by
   intro j u hu
   rw [List.getElem?_map] at hu
   obtain ⟨y,hy,rfl⟩:=Option.map_eq_some_iff.1 hu
   have hj:j<ys.length:=(sI.1 hy).1
   obtain ⟨b,o,e,_,hc⟩:=hr.2.2 (by omega)
   cases e
   rw [Go.WideShapes.add_plain]
   exact hc j y hy
  obtain ⟨v',w',hrun,h3,h4,_,h5⟩:=run_append_own_at (P:=Tryz.prog) w base 25 ty 9 i (.string ByteArray.empty) 1 16 Tryz.underlying25 hi hz h1 h2 rfl (by omega) v xs.length (xs.map Value.string) hown ad ys.length c (ys.map Value.string)
   (by simp) hcells (by intro u hu;obtain ⟨y,_,rfl⟩:=List.mem_map.1 hu;rfl) (by simp only [maxLen];omega) (by omega) hbase
  refine ⟨v',w',hrun,?_,h4,h5⟩
  unfold OT
  rw [List.length_append,List.map_append]
  exact h3
theorem wp_append_big {w:World} {o:Oper} {a:Act} {K:Act→World→Prop} {Q:Exit→Act→World→Prop} (s x:Operand)
 (ho:o.op=.call { callee:=.builtin .append,args:=#[s,x],argTypes:=#[25,25] })
 (base:Nat) (v:Value) (xs ys:List ByteArray) (A:Option Addr) (c n:Nat) (hn:ys.length=n) (hs:a.eval s=v) (hx:a.eval x=.slice A n c) (hown:OT w base v xs) (hr:RT w A c ys)
 (hlen:xs.length+n≤3000000) (hbase:base≤w.heap.size)
 (h:∀ v' w',OT w' base v' (xs++ys)→w.grownBy w' v.ownBlock→(v'.ownBlock=v.ownBlock∨v'.ownBlock=some w.heap.size)→K (a.put o.dst v') w'):o.wp Tryz.prog a w K Q:=by
 subst hn
 obtain ⟨v',w',hrun,h2,h3,h4⟩:=run_append_big w base v xs ys A c o.type hown hr hlen hbase
 unfold Oper.wp execOp
 simp only [ho,resolve,invoke,builtin,Sem.run_bind,Sem.run_pure,Result.andThen_ok,List.map_toArray,List.map_cons,List.map_nil,hs,hx,hrun]
 exact h v' w' h2 h3 h4
theorem step_append_big {w:World} {ops:Array Oper} {o:Oper} {a:Act} {K:Act→World→Prop} {Q:Exit→Act→World→Prop} {E:Prop} (hgd:o.guard=none) (s x:Operand)
 (ho:o.op=.call { callee:=.builtin .append,args:=#[s,x],argTypes:=#[25,25] })
 (base:Nat) (v:Value) (xs ys:List ByteArray) (A:Option Addr) (c n:Nat) (hn:ys.length=n) (hs:a.eval s=v) (hx:a.eval x=.slice A n c) (hown:OT w base v xs) (hr:RT w A c ys)
 (hlen:xs.length+n≤3000000) (hbase:base≤w.heap.size)
 (h:∀ v' w',OT w' base v' (xs++ys)→w.grownBy w' v.ownBlock→(v'.ownBlock=v.ownBlock∨v'.ownBlock=some w.heap.size)→K (a.put o.dst v') w') :
 if Region.wanted o (yielded ops a.tmps)=true then Oper.wp Tryz.prog o a w K Q else E:=by
 have hw:Region.wanted o (yielded ops a.tmps)=true:=by simp [Region.wanted,hgd]
 rw [if_pos hw]
 exact wp_append_big s x ho base v xs ys A c n hn hs hx hown hr hlen hbase h
def LnSm (p:Ln):Prop:=szN 40 p.2.1∧szN 40 p.2.2
def StSm (s:St):Prop:=s.1.size+s.2.1.size≤100∧s.2.2.length≤15∧∀ p∈s.2.2,LnSm p
def StRd (l:List St):Prop:=l.length≤1048576∧∀ s∈l,s.1.size≤1048576∧s.2.1.size≤1048576∧s.2.2.length≤1048576∧∀ p∈s.2.2,p.2.1.1.length≤1048576∧p.2.2.1.length≤1048576∧(∀ x∈p.2.1.1,x.size≤1048576)∧∀ x∈p.2.2.1,x.size≤1048576
def SmOk (l:List St):Prop:=l.length≤20∧∀ s∈l,StSm s
theorem SmOk.sz {l:List St} (h:SmOk l):SzS l:=fun s hs=>by
 obtain ⟨h1,h2,h3⟩:=h.2 s hs
 exact ⟨⟨by omega,by omega⟩,h2,h3⟩
def RetSm (w:World) (l:List St) (e:Ending) (w':World):Prop:=∃ b:Bool,e=.returned (.bool b)∧(b=true→SmOk l)∧Below w.heap.size w w'
theorem RetSm.no {w w':World} {l:List St} {e:Ending} (he:e=.returned (.bool false)) (hb:Below w.heap.size w w'):RetSm w l e w':=⟨false,he,fun h=>(by cases h),hb⟩
theorem sm_take {l:List St} {k:Nat} {s:St} (hs:l[k]? = some s) (h:∀ x∈l.take k,StSm x) (hk:StSm s):∀ x∈l.take (k+1),StSm x:=fun x hx=>by
 rw [List.take_add_one,hs] at hx
 rcases List.mem_append.1 hx with hx|hx
 ·exact h x hx
 ·rw [List.mem_singleton.1 hx];exact hk
theorem ln_take {l:List Ln} {k:Nat} {s:Ln} (hs:l[k]? = some s) (h:∀ x∈l.take k,LnSm x) (hk:LnSm s):∀ x∈l.take (k+1),LnSm x:=fun x hx=>by
 rw [List.take_add_one,hs] at hx
 rcases List.mem_append.1 hx with hx|hx
 ·exact h x hx
 ·rw [List.mem_singleton.1 hx];exact hk
set_option maxRecDepth 100000 in
theorem smallS_any (A:Option Addr) (c0:Nat) (l:List St) (w:World) (h:STR w A c0 l) (hr:StRd l) :
 Calls Tryz.prog 6 #[.slice A l.length c0] w (RetSm w l):=by
 have HL:=lh h
 have q1:=h.1
 have q2:=h.2.1
 have q3:=hr.1
 have HR:=lh hr.2
 clear h hr
 go_enter Tryz.func6,Tryz.ntmps6
 go_wp2_with fail
 go_loopw [3,12] (fun s3 s12 wr=>∃ (k:Nat) (v:Int),k≤l.length∧s3=.int .i64 v∧s12=.int .i64 k∧Hid (Below w.heap.size w wr)∧Hid (∀ x∈l.take k,StSm x)) (fun _ s12 _=>l.length-(intOf s12).toNat)
 case atStart=>exact ⟨0,0,Nat.zero_le _,rfl,rfl,lh (Below.refl _ _),lh (fun x hx=>by cases hx)⟩
 case round =>
  obtain ⟨k,v,hk,rfl,rfl,HB,HS⟩:=hrel
  by_cases hlt:k<l.length
  ·obtain ⟨s,hs⟩:∃ s,l[k]? = some s:=⟨_,gE hlt⟩
   obtain ⟨b,o,P,n,rfl,hbw,x0,x1,x2,hsv⟩:=(HL.out.below HB.out).at_ hs
   obtain ⟨r1,r2,r3,r4⟩:=HR.out s (mG hs)
   have HRL:=lh r4
   have p1:=hsv.lenc
   have p2:=hsv.capc
   have HSV:=lh hsv
   have hw1:IntKind.i64.wrap ((s.1.size:Int)+(s.2.1.size:Int))=((s.1.size+s.2.1.size:Nat):Int):=by
    rw [IntWalk.i64_in _ (by omega)];simp
   have HKS:=lh hs
   clear r4 hsv hs
   by_cases hn:100<s.1.size+s.2.1.size
   ·have hi1:decide ((100:Int)<((s.1.size+s.2.1.size:Nat):Int))=true:=by simp;omega
    go_wp2_with fail
    go_ret
    exact RetSm.no rfl (go3 HB.out bB)
   ·have hi1:decide ((100:Int)<((s.1.size+s.2.1.size:Nat):Int))=false:=by simp;omega
    by_cases hp:15<s.2.2.length
    ·have hi2:decide ((15:Int)<(s.2.2.length:Int))=true:=by simp;omega
     go_wp2_with fail
     go_ret
     exact RetSm.no rfl (go3 HB.out bB)
    ·have hi2:decide ((15:Int)<(s.2.2.length:Int))=false:=by simp;omega
     obtain ⟨wt,rfl⟩:∃ wt,wt=wr:=⟨wr,rfl⟩
     have hs100:s.1.size+s.2.1.size≤100:=by omega
     have hs15:s.2.2.length≤15:=by omega
     go_wp2_with fail
     clear x0 x1 x2
     go_loopw [3,33] (fun s3 s33 wr=>∃ (j:Nat) (v:Int),j≤s.2.2.length∧s3=.int .i64 v∧s33=.int .i64 j∧Hid (Below wt.heap.size wt wr)∧Hid (∀ x∈s.2.2.take j,LnSm x)) (fun _ s33 _=>s.2.2.length-(intOf s33).toNat)
     case atStart=>exact ⟨0,v,Nat.zero_le _,rfl,rfl,lh bB,lh (fun x hx=>by cases hx)⟩
     case round =>
      obtain ⟨j,v2,hj,rfl,rfl,HB2,HS2⟩:=hrel
      by_cases hjl:j<s.2.2.length
      ·obtain ⟨p,hp⟩:∃ p,s.2.2[j]? = some p:=⟨_,gE hjl⟩
       obtain ⟨b2,o2,B,d,A2,c2,rfl,hb2,e0,e1,e2,e3,e4,k1,k2⟩:=(HSV.out.below HB2.out).ln hp
       obtain ⟨l1,l2,l3,l4⟩:=HRL.out p (mG hp)
       have HPJ:=lh hp
       have HL3:=lh (And.intro l3 l4)
       obtain ⟨wu,rfl⟩:∃ wu,wu=wr:=⟨wr,rfl⟩
       have HQ:At (fun W=>BX W wu.heap.size [.int .i64 p.1,.slice B p.2.1.1.length d,.bool p.2.1.2,.slice A2 p.2.2.1.length c2,.bool p.2.2.2]∧(RT W B d p.2.1.1∧RT W A2 c2 p.2.2.1)∧Below wu.heap.size wu W) (wu.alloc (.cells #[.int .i64 p.1,.slice B p.2.1.1.length d,.bool p.2.1.2,.slice A2 p.2.2.1.length c2,.bool p.2.2.2] 51)) :=
        ⟨fun X Y h hb=>⟨h.1.below hb,⟨h.2.1.1.below hb,h.2.1.2.below hb⟩,go3 h.2.2 hb⟩,BX.new wu _ _ rfl,⟨k1.below (ba _ _),k2.below (ba _ _)⟩,ba _ _⟩
       have HB2s:=lh HB2.out.size
       clear k1 k2 hp l3 l4
       obtain ⟨LL,HLL⟩:∃ LL,Hid (p.2.1.1++p.2.2.1=LL):=⟨_,lh rfl⟩
       go_upto_region 11 with fail
       clear e0 e1 e2 e3 e4
       obtain ⟨e0,e1,e2,e3,e4⟩:=HQ.out.1.c5
       have el:=HQ.out.1.2.2
       go_cut [55,56,57] (fun s55 s56 s57 wx=>∃ (C8:Option Addr) (n8:Nat),s55=.slice C8 LL.length n8∧s56=.int .i64 (LL.length:Int)∧s57=.int .i64 0∧Hid (RT wx C8 n8 LL)∧Hid (Below wt.heap.size wt wx))
       case first =>
        go_region_law (first
         | (refine step_append_big rfl _ _ rfl wu.heap.size (.slice none 0 0) [] p.2.1.1 B d p.2.1.1.length rfl rfl rfl (OT.nil _ _) (HQ.go bB).out.2.1.1 (by simp;omega) (HQ.go bB).out.2.2.size ?_;intro v7 w7 hown7 hg7 hor7;(rw [List.nil_append] at hown7);have hb7:=Below.grown (Below.refl _ _) hg7 (Nat.le_refl _) (fun k h=>by cases h);replace HQ:=HQ.go2 bB hb7;have HO7:At (fun W=>OT W wu.heap.size v7 p.2.1.1) w7:=⟨fun X Y h hb=>h.below hb,hown7⟩;clear hown7 hg7 hor7 hb7 e0 e1 e2 e3 e4 el;obtain ⟨e0,e1,e2,e3,e4⟩:=HQ.out.1.c5;have el:=HQ.out.1.2.2)
         | (refine step_append_big rfl _ _ rfl wu.heap.size v7 p.2.1.1 p.2.2.1 A2 c2 p.2.2.1.length rfl rfl rfl (HO7.go bB).out (HQ.go bB).out.2.1.2 (by omega) (HQ.go bB).out.2.2.size ?_;intro v8 w8 hown8 hg8 hor8;(rw [HLL.out] at hown8);obtain ⟨C8,n8,rfl,hr8⟩:=hown8.read;have HR8:=lh hr8;have HB8:=lh ((HQ.go bB).out.2.2.grown hg8 (HQ.go bB).out.2.2.size (fun k hk=>(HO7.go bB).out.own k hk));clear hown8 hg8 hor8 hr8))
        all_goals (go_wp2_with fail)
        all_goals go_meet
        all_goals exact ⟨C8,n8,rfl,rfl,rfl,lh (HR8.out.below bB),lh (go3 HB2.out (go3 HB8.out bB))⟩
       case rest =>
        obtain ⟨C8,n8,rfl,rfl,rfl,HR8,HB8⟩:=hcut
        clear HQ e0 e1 e2 e3 e4 el
        have hr1:=HR8.out.1
        have hr2:=HR8.out.2.1
        have hLl:LL.length≤3000000:=by rw [←HLL.out,List.length_append];omega
        obtain ⟨wv,rfl⟩:∃ wv,wv=wc:=⟨wc,rfl⟩
        go_wp2_with fail
        go_loopw [57] (fun s57 wr=>∃ (i:Nat),i≤LL.length∧s57=.int .i64 i∧Hid (Below wv.heap.size wv wr)∧Hid (∀ x∈LL.take i,x.size≤40)) (fun s57 _=>LL.length-(intOf s57).toNat)
        case atStart=>exact ⟨0,Nat.zero_le _,rfl,lh (Below.refl _ _),lh (fun x hx=>by cases hx)⟩
        case round =>
         obtain ⟨i,hi,rfl,HB3,HS3⟩:=hrel
         by_cases hil:i<LL.length
         ·obtain ⟨x,hx⟩:∃ x,LL[i]? = some x:=⟨_,gE hil⟩
          obtain ⟨b9,o9,rfl,hb9,hc9⟩:=(HR8.out.below HB3.out).2.2 (by omega)
          have y0:=hc9 i x hx
          have hxs:x.size≤1048576:=by
           have hm:x∈p.2.1.1++p.2.2.1:=by rw [HLL.out];exact mG hx
           rcases List.mem_append.1 hm with hm|hm
           ·exact HL3.out.1 x hm
           ·exact HL3.out.2 x hm
          have HTK:Hid (LL.take (i+1)=LL.take i++[x]):=lh (by rw [List.take_add_one,hx];rfl)
          clear hc9 hx
          by_cases h40:40<x.size
          ·have hb:decide ((40:Int)<(x.size:Int))=true:=by simp;omega
           go_wp2_with fail
           go_ret
           exact RetSm.no rfl (go3 HB.out (go3 HB8.out HB3.out))
          ·have hb:decide ((40:Int)<(x.size:Int))=false:=by simp;omega
           go_wp2_with fail
           go_roundw
           case rel =>
            refine ⟨i+1,by omega,by go_num,HB3,lh (fun y hy=>?_)⟩
            rw [HTK.out] at hy
            rcases List.mem_append.1 hy with hy|hy
            ·exact HS3.out y hy
            ·rw [List.mem_singleton.1 hy];omega
           case measure=>simp [intOf];omega
         ·obtain rfl:i=LL.length:=by omega
          rw [List.take_length] at HS3
          have HLN:Hid (LnSm p):=lh ⟨fun x hx=>HS3.out x (by rw [←HLL.out];exact List.mem_append_left _ hx),fun x hx=>HS3.out x (by rw [←HLL.out];exact List.mem_append_right _ hx)⟩
          go_wp2_with fail
          go_roundw
          case rel=>exact ⟨j+1,_,by omega,rfl,by go_num,lh (go3 HB8.out HB3.out),lh (ln_take HPJ.out HS2.out HLN.out)⟩
          case measure=>simp [intOf];omega
      ·obtain rfl:j=s.2.2.length:=by omega
       rw [List.take_length] at HS2
       have HST:Hid (StSm s):=lh ⟨hs100,hs15,HS2.out⟩
       go_wp2_with fail
       go_roundw
       case rel=>exact ⟨k+1,_,by omega,rfl,by go_num,lh (go3 HB.out HB2.out),lh (sm_take HKS.out HS.out HST.out)⟩
       case measure=>simp [intOf];omega
  ·obtain rfl:k=l.length:=by omega
   rw [List.take_length] at HS
   by_cases h20:l.length≤20
   ·have hb:decide ((l.length:Int)≤20)=true:=by simp;omega
    go_wp2_with fail
    go_ret
    exact ⟨_,rfl,fun _=>⟨h20,HS.out⟩,HB.out⟩
   ·have hb:decide ((l.length:Int)≤20)=false:=by simp;omega
    go_wp2_with fail
    go_ret
    exact RetSm.no rfl HB.out
end Go.Proofs.YtelkmeiepliecaaGreatDoor

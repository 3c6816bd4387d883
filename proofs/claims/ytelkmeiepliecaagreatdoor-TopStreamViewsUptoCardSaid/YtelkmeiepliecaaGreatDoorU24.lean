/-
  Part 24 of the proof.
-/
import Derived.Test.YtelkmeiepliecaaGreatDoorU23
import Derived.Lib.AppendZeros
set_option linter.unusedSimpArgs false
set_option linter.unusedVariables false
set_option maxHeartbeats 16000000
namespace Go.Proofs.YtelkmeiepliecaaGreatDoor
open Go.RowKit Go.Shelf
theorem okPn_len {p:Pn} (h:okPn p):0<p.1.length∧p.1.length≤12:=⟨(check_zero h).1,(check_zero h).2.1⟩
theorem met_sz {m:Nat} {p q:Pn} (h:metO p q=true) (hp:∀ x∈p.1,x.size≤m) (hq:∀ x∈q.1,x.size≤m):∀ x∈(met p q).1,x.size≤m:=meet_sz h hp hq
theorem redM_snoc {b:Pn} {ps:List Pn} {k:Nat} {p:Pn} (h:ps[k]? = some p):redM b (ps.take (k+1))=redM b (ps.take k)++(if metO b p=true then [met b p] else []):=by
 unfold redM
 rw [List.take_add_one,h,List.filter_append,List.map_append]
 refine congrArg _ ?_
 by_cases hm:metO b p=true
 ·simp [hm]
 ·simp [hm]
structure HoIn (w:World) where
 o:Ho
 h:RT w o.A o.n o.p.1
 s:∀ x∈o.p.1,x.size≤5000
instance (w:World):Inhabited (HoIn w):=⟨⟨⟨none,0,([],false)⟩,RT.nil w none 0 (by omega),fun x hx=>by cases hx⟩⟩
theorem containsH_any (gf:FuncId) (lb:Array Value) (p:Pn→Bool) (g c:Nat) (hs:List Ho) (w:World) (h:HB w g c hs) (hm:HM w g hs) (hz:∀ o∈hs,∀ x∈o.p.1,x.size≤5000)
 (eg:∀ args w,(callFunc gf args).run Tryz.prog w=.ok (.enter gf args) w)
 (hp:∀ (W:World) (o:Ho),Below w.heap.size w W→RT w o.A o.n o.p.1→(∀ x∈o.p.1,x.size≤5000)→Calls Tryz.prog gf (#[.agg o.enc.toArray]++lb) W fun e w'=>e=.returned (.bool (p o.p))∧Below w.heap.size w w') :
 Calls Tryz.prog 112 #[.slice (some ⟨g,0,none⟩) hs.length c,.func (.func gf) #[] lb] w fun e w'=>e=.returned (.bool ((hs.map Ho.p).any p))∧Below w.heap.size w w':=by
 obtain ⟨zs,hzs⟩:∃ zs:List (HoIn w),zs.map HoIn.o=hs:=⟨hs.attach.map fun x=>⟨x.1,(hm x.1 x.2).1,hz x.1 x.2⟩,by rw [List.map_map];exact List.attach_map_subtype_val hs⟩
 have hl:zs.length=hs.length:=by rw [←hzs,List.length_map]
 have h1:=h.2.1
 have h2:=h.2.2
 have hcon:=AnyQ.slices_ContainsFunc Tryz.layConH 3 Tryz.isAgg188 Tryz.sizeOf188 (fun x:HoIn w=>x.o.enc) (fun _=>rfl) (fun x=>p x.o.p) gf lb eg g 0 hs.length c zs w
  (fun W x hW=>hp W x.o hW x.h x.s) (by omega) (by omega) h.1.2.2 (fun j hj i v hi=>by
   have hx:hs[j]? = some zs[j]!.o:=by
    rw [←hzs,List.getElem?_map,getElem!_pos zs j hj,gE hj]
    rfl
   obtain ⟨c0,c1,c2⟩:=h.cell hx
   generalize zs[j]!.o=o at *
   rw [Nat.zero_add]
   match i,hi with
   | 0,hi=>cases hi;exact c0
   | 1,hi=>cases hi;exact c1
   | 2,hi=>cases hi;exact c2
   | i+3,hi=>simp [Ho.enc] at hi)
 rw [show (zs.take hs.length).any (fun x=>p x.o.p)=(hs.map Ho.p).any p from by rw [←hl,List.take_length,← hzs,List.map_map,List.any_map];rfl] at hcon
 exact hcon
theorem compact_nil (f:Value) (A:Option Addr) (c:Nat) (w:World) :
 Calls Tryz.prog 108 #[.slice A 0 c,f] w fun e w'=>e=.returned (.slice A 0 c)∧w'=w:=by
 go_enter Tryz.func108,Tryz.ntmps108
 go_wp2_with fail
 go_ret
 exact ⟨rfl,rfl⟩
theorem sort_nil (f:Value) (A:Option Addr) (c:Nat) (w:World) :
 Calls Tryz.prog 105 #[.slice A 0 c,f] w fun e w'=>e=.returned (.tuple #[])∧w'=w :=
 AnyF.slices_SortFunc_none Tryz.laySortH A c f w
theorem HB.grown {w w':World} {g c:Nat} {hs:List Ho} {k:Option Nat} (h:HB w g c hs) (hg:w.grownBy w' k) (hk:k≠some g):HB w' g c hs:=⟨h.1.grown hg hk,h.2⟩
def topK (hs:List Pn) (k:Nat):List Pn:=(hs.take k).filter fun h=>!hs.any fun o=>decide (txt o≠txt h)&&insP h o
theorem topK_snoc {hs:List Pn} {k:Nat} {h:Pn} (hh:hs[k]? = some h):topK hs (k+1)=topK hs k++if (!hs.any fun o=>decide (txt o≠txt h)&&insP h o)=true then [h] else []:=by
 unfold topK
 rw [List.take_add_one,hh,List.filter_append]
 refine congrArg _ ?_
 show List.filter _ [h]=_
 rw [List.filter_cons,List.filter_nil]
theorem topK_all (hs:List Pn):topK hs hs.length=topH hs:=by
 unfold topK topH
 rw [List.take_length]
theorem topK_len (hs:List Pn) (k:Nat):(topK hs k).length≤k:=Nat.le_trans (List.length_filter_le _ _) (by rw [List.length_take];omega)
theorem so_shape {α:Type} {e:El α} {w:World} {base:Nat} {T:TypeId} {v:Value} {K:Nat→Prop} {xs:List α} (h:SO e w base T v K xs):∃ A n c,v=.slice A n c∧Hid (n=xs.length):=by
 obtain ⟨A,c,e⟩:=h.shape
 exact ⟨A,_,c,e,lh rfl⟩
theorem fresh_own {wr w1:World} {base:Nat} {v:Value} {hs:List Ho} {C:Option Addr} {n:Nat} {xs:List ByteArray} (hO:HoO wr base v hs) (hrt:RT w1 C n xs) (h0:0<xs.length) (hf:∀ p,C=some p→wr.heap.size+1≤p.block):∀ a,C=some a→v.ownBlock≠some a.block∧a.block<w1.heap.size:=fun a e=>by
 have h1:=hf a e
 refine ⟨fun e2=>?_,?_⟩
 ·have:=(hO.own _ e2).2
  omega
 ·obtain ⟨b',o',e3,h3,_⟩:=hrt.2.2 h0
  rw [e] at e3
  cases e3
  exact h3
theorem bb2 {a j:Nat} {x y:List Value} (h:a+2≤j):(∀ p∈[(a,x),(a+1,y)],p.1≠j)∧a≤j:=⟨fun p hp=>by
 simp only [List.mem_cons,List.not_mem_nil,or_false] at hp
 rcases hp with rfl|rfl
 ·show a≠j;omega
 ·show a+1≠j;omega,by omega⟩
def RetRg (w:World) (b:Pn) (hs:List Pn) (e:Ending) (w':World):Prop :=
 ∃ B d A c,e=.returned (.agg #[.slice B b.1.length d,.bool b.2,.slice A hs.length c])∧(RT w' B d b.1∧BT w' A c hs∧NilC A c∧∀ a,A=some a→w.heap.size≤a.block)∧Below w.heap.size w w'
set_option maxRecDepth 100000 in
theorem reduce_any (B A:Option Addr) (d c:Nat) (b:Pn) (ps:List Pn) (w:World) (h:RT w B d b.1) (k:BT w A c ps) (hb:szP b) (hps:∀ q∈ps,szP q) (hl:ps.length≤5000) :
 Calls Tryz.prog 74 #[.agg #[.slice B b.1.length d,.bool b.2],.slice A ps.length c] w (RetRg w b (redH b ps)):=by
 have HR:=lh h
 have HP:=lh k
 have HSB:=lh hb
 have HSP:=lh hps
 have q1:=k.1
 have q2:=k.2.1
 have HS:At (BN w [(w.heap.size,[.slice B b.1.length d,.bool b.2]),(w.heap.size+1,[.slice none 0 0,.bool false,.slice none 0 0])]) ((w.alloc (.cells #[.slice B b.1.length d,.bool b.2] 45)).alloc (.cells #[.slice none 0 0,.bool false,.slice none 0 0] 48)) :=
  (((BN.nil w).push [.slice B b.1.length d,.bool b.2] 45 rfl (ns2 ns_slice ns_bool)).push [.slice none 0 0,.bool false,.slice none 0 0] 48 (g:=w.heap.size+1) (by simp) (ns3 ns_slice ns_bool ns_slice)).at_
 clear h k hb hps
 go_enter Tryz.func74,Tryz.ntmps74
 go_wp2_with fail
 go_loopw [5,16] (fun s5 s wr=>∃ (k:Nat) (hs:List Ho),k≤ps.length∧s=.int .i64 k∧hs.length≤k∧Hid (HoO wr (w.heap.size+2) s5 hs)∧Hid (hs.map Ho.p=redM b (ps.take k))∧Hid (BN w [(w.heap.size,[.slice B b.1.length d,.bool b.2]),(w.heap.size+1,[.slice none 0 0,.bool false,.slice none 0 0])] wr)∧w.heap.size+2≤wr.heap.size) (fun _ s _=>ps.length-(intOf s).toNat)
 case atStart=>exact ⟨0,[],Nat.zero_le _,rfl,Nat.le_refl _,lh (HoO.nil _ _),lh rfl,lh HS.out,by simp⟩
 case round =>
  clear HS
  obtain ⟨k,hs,hk,rfl,hlk,HO,HM1,HS0,hsz⟩:=hrel
  have HS:=HS0.out.at_
  clear HS0
  by_cases hlt:k<ps.length
  ·obtain ⟨p,hp⟩:∃ p,ps[k]? = some p:=⟨_,gE hlt⟩
   obtain ⟨b5,o,rfl,hb5,hc⟩:=(HP.out.below HS.out.low).2.2 (by omega)
   obtain ⟨C,n,x0,x1,x2⟩:=hc k p hp
   have HX:=lh x2
   have HSPP:=lh (HSP.out p (mG hp))
   have HSN:=lh (redM_snoc (b:=b) hp)
   have HME:=lh (fun W k l=>meet_anyF B C d n b.1 p.1 b.2 p.2 W k l (five9 HSB.out.1) (five9 HSPP.out.1))
   clear hc hp x2
   obtain ⟨a0,a1⟩:=(HS.out.get 0 rfl).c2
   have hs0:w.heap.size<wr.heap.size:=by omega
   cases hmm:metO b p with
   | false =>
    have HM2:=lh (fun W k l=>(HME.out W k l).mono fun _ _ h=>h.2 (show meetOk b.1 p.1 b.2 p.2=false from hmm))
    rw [hmm] at HSN
    clear hmm HME
    go_wp2_with (go_at_call 58;refine (HM2.out _ (HR.out.below (HS.go bB).out.low) (HX.out.below bB)).mono ?_;rintro e w1 ⟨C2,n2,rfl,-,hb1⟩;replace HS:=HS.go2 bB hb1;have HO2:=lh (HO.out.below (go3 (ba _ _) hb1));have hs1:=hb1.size;simp only [World.size_alloc] at hs1;clear hb1 HO a0 a1 x0 x1)
    go_roundw
    case rel=>exact ⟨k+1,hs,by omega,by go_num,by omega,lh (HO2.out.below bB),lh (by rw [HM1.out,HSN.out];simp),lh (HS.go bB).out,by simp;omega⟩
    case measure=>simp [intOf];omega
   | true =>
    have HM2:=lh (fun W k l=>(HME.out W k l).mono fun _ _ h=>h.1 (show meetOk b.1 p.1 b.2 p.2=true from hmm))
    have HOK:=lh (met_ok hmm)
    have HMZ:=lh (met_sz hmm HSB.out.1 HSPP.out.1)
    rw [hmm] at HSN
    have HMT:Hid (meetL b.1 p.1=(met b p).1∧(b.2&&p.2)=(met b p).2):=lh ⟨rfl,rfl⟩
    rw [HMT.out.1,HMT.out.2] at HM2
    have HT:=lh (fun C n W h=>text_any C n (met b p).1 (met b p).2 W h (by have:=(okPn_len HOK.out).2;omega) (fun x hx=>by have:=HMZ.out x hx;omega))
    have HTX:Hid (textB (met b p).1 (met b p).2=txt (met b p)):=lh rfl
    rw [HTX.out] at HT
    have hml:=(okPn_len HOK.out).1
    clear hmm HME HMT HTX HMZ
    generalize met b p=m at *
    go_upto_region 7 with (go_at_call 58;refine (HM2.out _ (HR.out.below (HS.go bB).out.low) (HX.out.below bB)).mono ?_;rintro e w1 ⟨C2,n2,rfl,⟨hrt,hfr⟩,hb1⟩;replace HS:=HS.go2 bB hb1;have HO2:=lh (HO.out.below (go3 (ba _ _) hb1));have hs1:=hb1.size;simp only [World.size_alloc] at hs1;clear hb1 a0 a1 x0 x1;have HFR:=lh (fresh_own HO.out hrt hml (fun p e=>by have:=hfr p e;simpa using this));have HRT:=lh hrt;clear hrt hfr HO)
    have HQ:At (fun w'=>BX w' w1.heap.size [.slice C2 m.1.length n2,.bool m.2]∧HoO w' (w.heap.size+2) u5 hs∧RT w' C2 n2 m.1∧BN w [(w.heap.size,[.slice B b.1.length d,.bool b.2]),(w.heap.size+1,[.slice none 0 0,.bool false,.slice none 0 0])] w') (w1.alloc (.cells #[.slice C2 m.1.length n2,.bool m.2] 45)) :=
     ⟨fun X Y h hb=>⟨h.1.below hb,h.2.1.below hb,h.2.2.1.below hb,BN.kept _ _ _ _ h.2.2.2 hb⟩,BX.new w1 _ _ rfl,HO2.out.below (ba _ _),HRT.out.below (ba _ _),(HS.go (ba _ _)).out⟩
    have hown:=HO2.out.own
    have hne8:u5.ownBlock≠some w1.heap.size:=fun e=>by
     have:=(hown _ e).2
     omega
    clear HRT HO2 HS
    go_region_held3 (fun w'=>w'.cell? ⟨w1.heap.size,0,none⟩=some (.slice C2 m.1.length n2)∧w'.cell? ⟨w1.heap.size,1,none⟩=some (.bool m.2))
     (first|exact cu7|exact (HQ.go bB).out.1.c2)
     (first
      | (go_at_call 104;refine (HT.out _ _ _ (HQ.go bB).out.2.2.1).mono ?_;rintro e w5 ⟨rfl,hb5⟩;replace HQ:=HQ.go2 bB hb5;clear hb5)
      | (refine step_append_hole rfl _ _ rfl (w.heap.size+2) _ hs ⟨C2,n2,m⟩ _ 1 rfl rfl (HQ.go bB).out.2.1 ⟨(HQ.go bB).out.2.2.1,fun a e=>⟨(HFR.out a e).1,Nat.lt_trans (HFR.out a e).2 (HQ.go bB).out.1.2.2⟩⟩ (cells_new _ [_,_,_] _ (by simp)) (by omega) (Nat.le_trans (by omega:w.heap.size+2≤w1.heap.size) (Nat.le_of_lt (HQ.go bB).out.1.2.2)) ?_;intro v7 w7 hown7 hg7 hor7;have HO7:=lh hown7;have cu7:=((HQ.go bB).out.1.grown hg7 hne8).c2;have HS7:=lh ((HQ.go bB).out.2.2.2.grown hg7 (fun j hj=>bb2 (hown j hj).1));have hs7:=((HQ.go bB).out.1.grown hg7 hne8).2.2;clear hown7 hg7 hor7))
    go_wp2_with fail
    go_roundw
    case rel=>exact ⟨k+1,hs++[⟨C2,n2,m⟩],by omega,by go_num,by rw [List.length_append];simp;omega,lh (HO7.out.below bB),lh (by rw [List.map_append,HM1.out,HSN.out];simp),lh (HS7.out.at_.go bB).out,by first|omega|(simp;omega)⟩
    case measure=>simp [intOf];omega
  ·obtain rfl:k=ps.length:=by omega
   rw [List.take_length] at HM1
   have HOUT:=HO.out.out
   clear HO
   have HCPY:=lh (fun W h=>pcopy_any B d b.1 b.2 W h (by have:=HSB.out.2;omega))
   obtain ⟨a0,a1⟩:=(HS.out.get 0 rfl).c2
   have hs0:w.heap.size<wr.heap.size:=by omega
   rcases HOUT with ⟨rfl,rfl⟩|⟨g,cap,rfl,hgb,hhb,hhm⟩
   ·have HRE:Hid (redH b ps=[]):=lh (by unfold redH;rw [←HM1.out,show sortP (List.map Ho.p [])=[] from List.eq_nil_of_length_eq_zero (by rw [sortP_len];rfl)];rfl)
    clear a0 a1 q1 q2
    go_wp2_with (first
     | (go_at_call 105;refine (sort_nil _ _ _ _).mono ?_;rintro e w2 ⟨rfl,rfl⟩)
     | (go_at_call 108;refine (compact_nil _ _ _ _).mono ?_;rintro e w3 ⟨rfl,rfl⟩;obtain ⟨a0,a1⟩:=(HS.out.get 0 rfl).c2)
     | (go_at_call 54;refine (HCPY.out _ (HR.out.below HS.out.low)).mono ?_;rintro e w4 ⟨E,f,rfl,hrt,hb4⟩;replace HS:=HS.go2 bB hb4;have HRT:=lh hrt;clear hrt hb4))
    have HQ:At (fun w'=>BX w' w4.heap.size [.slice E b.1.length f,.bool b.2,.slice none 0 0]∧BN w [(w.heap.size,[.slice B b.1.length d,.bool b.2]),(w.heap.size+1,[.slice none 0 0,.bool false,.slice none 0 0])] w'∧RT w' E f b.1) (w4.alloc (.cells #[.slice E b.1.length f,.bool b.2,.slice none 0 0] 48)) :=
     ⟨fun X Y h hb=>⟨h.1.below hb,BN.kept _ _ _ _ h.2.1 hb,h.2.2.below hb⟩,BX.new w4 _ _ rfl,(HS.go (ba _ _)).out,HRT.out.below (ba _ _)⟩
    have hs4:w.heap.size+1<w4.heap.size:=(HS.out.get 1 rfl).2.2
    clear HS HRT a0 a1
    go_loopw [44] (fun s wr=>s=.int .i64 0∧Hid (BX wr w4.heap.size [.slice E b.1.length f,.bool b.2,.slice none 0 0]∧BN w [(w.heap.size,[.slice B b.1.length d,.bool b.2]),(w.heap.size+1,[.slice none 0 0,.bool false,.slice none 0 0])] wr∧RT wr E f b.1)) (fun _ _=>0)
    case atStart=>exact ⟨rfl,lh HQ.out⟩
    case round =>
     clear HQ
     obtain ⟨rfl,HQ⟩:=hrel
     obtain ⟨c0,c1,c2⟩:=HQ.out.1.c3
     obtain ⟨r0,r1,r2⟩:=(HQ.out.2.1.get 1 rfl).c3
     have f0:=(HQ.out.2.1.get 1 rfl).2.1 0
     have f1:=(HQ.out.2.1.get 1 rfl).2.1 1
     have f2:=(HQ.out.2.1.get 1 rfl).2.1 2
     go_wp2_with fail
     refine bodyPost_ret (v:=.agg #[.slice E b.1.length f,.bool b.2,.slice none 0 0]) (by simp [results,Tryz.results74,go_sem,r0,r1,r2,f0,f1,f2]) rfl ?_
     rw [HRE.out]
     exact ⟨E,f,none,0,rfl,⟨HQ.out.2.2.ch (ch_set3 (K:=fun _=>True) trivial (HQ.out.2.1.ns 1 rfl) ns_slice ns_bool _),BT.nil' _ none 0 (by omega),fun _=>rfl,fun a e=>by cases e⟩,below_set3 HQ.out.2.1.low (by omega) _ _ _⟩
   ·have HB0:=lh hhb
    have HM0:=lh hhm
    have HSO:=lh (fun W h m=>sort_any g cap hs W h m (by omega))
    have hokr:Hid (∀ x∈hs.map Ho.p,okPn x):=lh (by rw [HM1.out];exact redM_ok)
    have hszr:Hid (∀ x∈hs.map Ho.p,szP x):=lh (by
     rw [HM1.out]
     intro x hx
     obtain ⟨q,hq,rfl⟩:=List.mem_map.1 hx
     obtain ⟨hq,hm⟩:=List.mem_filter.1 hq
     exact ⟨met_sz hm HSB.out.1 (HSP.out q hq).1,by have:=(okPn_len (met_ok hm)).2;omega⟩)
    clear hhb hhm a0 a1 q1 q2
    go_upto_region 11 with (first
     | (go_at_call 105;refine (HSO.out _ (HB0.out.below bB) (HM0.out.below bB)).mono ?_;rintro e w2 ⟨rfl,⟨hs2,hp2,hps2,hb2,hm2⟩,hg2⟩;have HS2:=lh (HS.out.grown hg2 (fun j e=>by cases e;exact bb2 hgb));have HP2:=lh hp2;have HPS2:=lh hps2;have HB2:=lh hb2;have HM2:=lh hm2;have HCP:=lh (fun W h m=>compact_any g cap hs2 W h m (by rw [hp2.length_eq];omega));rw [hp2.length_eq] at HCP;clear hp2 hps2 hb2 hm2 hg2)
     | (go_at_call 108;refine (HCP.out _ (HB2.out.below bB) (HM2.out.below bB)).mono ?_;rintro e w3 ⟨hs3,rfl,he3,hb3,hm3,hg3⟩;have HS3:=lh (HS2.out.grown hg3 (fun j e=>by cases e;exact bb2 hgb));have HE3:=lh he3;have HB3:=lh hb3;have HM3:=lh hm3;clear he3 hb3 hm3 hg3))
    have HL3:Hid (hs3.map Ho.p=ddT txt (sortP (redM b ps))):=lh (by
     rw [HE3.out,← HM1.out,← sortP_eq hokr.out (HP2.out.map Ho.p) HPS2.out,ddT_map]
     rfl)
    have HRE:Hid (redH b ps=topH (hs3.map Ho.p)):=lh (by rw [HL3.out];rfl)
    have HSZ3:Hid (∀ o∈hs3,szP o.p):=lh (fun o ho=>by
     refine hszr.out _ ?_
     have:o.p∈hs3.map Ho.p:=List.mem_map_of_mem ho
     rw [HL3.out] at this
     rw [HM1.out]
     exact redD_mem this)
    have hl3:hs3.length≤5000:=by
     have:(hs3.map Ho.p).length≤(sortP (redM b ps)).length:=by rw [HL3.out];exact ddT_len _
     rw [sortP_len,← HM1.out,List.length_map,List.length_map] at this
     omega
    have HS:=HS3.out.at_
    clear HE3 HL3 HB2 HM2 HP2 HPS2 HSO HCP HS2 HS3 HB0 HM0 hokr hszr HM1
    obtain ⟨a0,a1⟩:=(HS.out.get 0 rfl).c2
    go_upto_region 12 with (go_at_call 54;refine (HCPY.out _ (HR.out.below HS.out.low)).mono ?_;rintro e w4 ⟨E,f,rfl,hrt,hb4⟩;replace HS:=HS.go2 bB hb4;have HRT:=lh hrt;have HB4:=lh (HB3.out.below hb4);have HM4:=lh (HM3.out.below hb4);clear hrt hb4 HB3 HM3)
    have HRG:Hid (BX (w4.alloc (.cells #[.slice E b.1.length f,.bool b.2,.slice none 0 0] 48)) w4.heap.size [.slice E b.1.length f,.bool b.2,.slice none 0 0]∧NSB (w4.alloc (.cells #[.slice E b.1.length f,.bool b.2,.slice none 0 0] 48)) w4.heap.size):=lh ⟨BX.new w4 _ _ rfl,NSB.new w4 _ (ns3 ns_slice ns_bool ns_slice) rfl⟩
    have hs4:w.heap.size+1<w4.heap.size:=(HS.out.get 1 rfl).2.2
    have hg4:g<w4.heap.size:=HB4.out.1.2.2
    have HS4:=lh HS.out
    have hc2:cap≤9223372036854775807:=HB4.out.2.2
    have hc1:hs3.length≤cap:=HB4.out.2.1
    clear HS a0 a1 HR HP HSP HSB HCPY
    go_wp2_with fail
    go_loopw [44] (fun s wr=>∃ (k n7 c7:Nat) (A7:Option Addr),k≤hs3.length∧s=.int .i64 k∧w4.heap.size+1≤wr.heap.size∧Hid (BX wr w4.heap.size [.slice E b.1.length f,.bool b.2,.slice A7 n7 c7]∧NSB wr w4.heap.size)∧Hid (n7=(topK (hs3.map Ho.p) k).length)∧Hid (SO elP wr (w4.heap.size+1) 45 (.slice A7 n7 c7) (fun j=>j=w4.heap.size) (topK (hs3.map Ho.p) k))∧Hid (Below w4.heap.size w4 wr)) (fun s _=>hs3.length-(intOf s).toNat)
    case atStart=>exact ⟨0,0,0,none,Nat.zero_le _,rfl,by simp,HRG,lh rfl,lh (SO.nil _ _ _ _ _),lh (ba _ _)⟩
    case round =>
     clear HRG
     obtain ⟨k,n7,c7,A7,hk,rfl,hsz,HRG,HN7,HSO,HLO⟩:=hrel
     obtain ⟨g0,g1,g2⟩:=HRG.out.1.c3
     by_cases hlt:k<hs3.length
     ·obtain ⟨h,hh⟩:∃ h,hs3[k]? = some h:=⟨_,gE hlt⟩
      have HH:=lh hh
      obtain ⟨c0,c1,c2⟩:=(HB4.out.below HLO.out).cell hh
      have HRH:=lh ((HM4.out.below HLO.out) h (mG hh)).1
      have HSH:=lh (HSZ3.out h (mG hh))
      have HTS:Hid (topK (hs3.map Ho.p) (k+1)=topK (hs3.map Ho.p) k++if (!(hs3.map Ho.p).any fun o=>decide (txt o≠txt h.p)&&insP h.p o)=true then [h.p] else []):=lh (topK_snoc (by rw [List.getElem?_map,hh];rfl))
      have HCN:Hid (∀ W,Below wr.heap.size wr W→BX W wr.heap.size h.enc→Calls Tryz.prog 112 #[.slice (some ⟨g,0,none⟩) hs3.length cap,.func (.func 110) #[] #[.pointer (some ⟨wr.heap.size,0,none⟩)]] W fun e w'=>e=.returned (.bool ((hs3.map Ho.p).any fun o=>decide (txt o≠txt h.p)&&insP h.p o))∧Below W.heap.size W w'):=lh (fun W hW hbx =>
       containsH_any 110 #[.pointer (some ⟨wr.heap.size,0,none⟩)] (fun o=>decide (txt o≠txt h.p)&&insP h.p o) g cap hs3 W ((HB4.out.below HLO.out).below hW) ((HM4.out.below HLO.out).below hW) (fun o ho=>(HSZ3.out o ho).1) (enters_of Tryz.func110 (by kernel_rfl) rfl)
        (fun W' o hW' hr hz=>red3_any wr.heap.size h W hbx (HRH.out.below hW) HSH.out.1 W' o hW' (hr.below hW') hz))
      generalize (hs3.map Ho.p).any (fun o=>decide (txt o≠txt h.p)&&insP h.p o)=q at *
      clear hh
      go_upto_region 16 with (fail)
      have HQ:At (fun w'=>(BX w' w4.heap.size [.slice E b.1.length f,.bool b.2,.slice A7 n7 c7]∧NSB w' w4.heap.size)∧SO elP w' (w4.heap.size+1) 45 (.slice A7 n7 c7) (fun j=>j=w4.heap.size) (topK (hs3.map Ho.p) k)∧Below w4.heap.size w4 w') (wr.alloc (.cells #[.slice h.A h.p.1.length h.n,.bool h.p.2,.string (txt h.p)] 188)) :=
       ⟨fun X Y h hb=>⟨⟨h.1.1.below hb,h.1.2.below h.1.1.2.2 hb⟩,h.2.1.below hb,go3 h.2.2 hb⟩,⟨HRG.out.1.below (ba _ _),HRG.out.2.below HRG.out.1.2.2 (ba _ _)⟩,HSO.out.below (ba _ _),go3 HLO.out (ba _ _)⟩
      have hown:∀ j,(Value.slice A7 n7 c7).ownBlock=some j→w4.heap.size+1≤j:=fun j hj=>(HSO.out.own j hj).1
      have HRH4:=lh (HM4.out h (mG HH.out)).1
      have hs44:w4.heap.size<wr.heap.size:=by omega
      clear HRG HSO HLO g0 g1 g2 c0 c1 c2 HRH
      cases q with
      | true =>
       go_wp2_with (go_at_call 112;refine (HCN.out _ (ba _ _) (BX.new wr _ _ rfl)).mono ?_;rintro e w6 ⟨rfl,hb6⟩;replace HQ:=HQ.go2 bB hb6;have hs6:wr.heap.size<w6.heap.size:=(by have:=hb6.size;simp only [World.size_alloc] at this;omega);clear hb6)
       go_roundw
       case rel=>exact ⟨k+1,n7,c7,A7,by omega,by go_num,by omega,lh HQ.out.1,lh (by rw [HTS.out,HN7.out];simp),lh (by rw [HTS.out];simpa using HQ.out.2.1),lh HQ.out.2.2⟩
       case measure=>simp [intOf];omega
      | false =>
       go_upto_region 17 with (go_at_call 112;refine (HCN.out _ (ba _ _) (BX.new wr _ _ rfl)).mono ?_;rintro e w6 ⟨rfl,hb6⟩;replace HQ:=HQ.go2 bB hb6;have hs6:wr.heap.size<w6.heap.size:=(by have:=hb6.size;simp only [World.size_alloc] at this;omega);clear hb6)
       have i1:(0:Int)≤(k:Int):=by omega
       have i2:(k:Int)<(hs3.length:Int):=by omega
       have gf:w6.frozen? ⟨w4.heap.size,2,none⟩=false:=HQ.out.1.1.2.1 2
       have hs66:w4.heap.size<w6.heap.size:=HQ.out.1.1.2.2
       have hs67:g<w6.heap.size:=by omega
       have hn8:(Value.slice A7 n7 c7).ownBlock≠some w4.heap.size:=fun e=>by have:=hown _ e;omega
       have hn9:(Value.slice A7 n7 c7).ownBlock≠some g:=fun e=>by have:=hown _ e;omega
       have htl:=topK_len (hs3.map Ho.p) k
       obtain ⟨g0,g1,g2⟩:=HQ.out.1.1.c3
       obtain ⟨c0,c1,c2⟩:=(HB4.out.below HQ.out.2.2).cell HH.out
       go_region_law (first|(refine step_append_so1 elP elPT rfl _ _ rfl (w4.heap.size+1) _ (fun j=>j=w4.heap.size) (topK (hs3.map Ho.p) k) h.p [.slice h.A h.p.1.length h.n,.bool h.p.2] w6.heap.size 1 rfl rfl (HQ.go bB).out.2.1 ⟨h.A,h.n,rfl,HRH4.out.below (HQ.go bB).out.2.2⟩ (cells_new _ [_,_] _ (by simp)) (by simp) (by omega) (by omega) (by omega) (by simp;omega) ?_;intro v8 w8 hso8 hg8 hor8;obtain ⟨A8,n8,c8,rfl,hn8l⟩:=so_shape hso8;have HSO8:=lh hso8;have HRG8:Hid (BX w8 w4.heap.size [.slice E b.1.length f,.bool b.2,.slice A7 n7 c7]∧NSB w8 w4.heap.size):=lh ⟨(HQ.go bB).out.1.1.grown hg8 hn8,(HQ.go bB).out.1.2.grown (HQ.go bB).out.1.1.2.2 hg8 hn8⟩;have HB8:=lh ((HB4.out.below (HQ.go bB).out.2.2).grown hg8 hn9);have HLO8:=lh ((HQ.go bB).out.2.2.grown hg8 (HQ.go bB).out.2.2.size (fun j hj=>by have:=hown j hj;omega));have cu8:=(⟨HRG8.out.1.c3.2.2,(HB8.out.cell HH.out).1,(HB8.out.cell HH.out).2.1⟩:_∧_∧_);have hs8:=(HRG8.out.1).2.2;have gf8:=HRG8.out.1.2.1 2;clear hso8 hg8 hor8;obtain ⟨g28,c08,c18⟩:=cu8))
       all_goals
       go_wp2_with fail
       go_roundw
       case rel=>exact ⟨k+1,n8,c8,A8,by omega,by go_num,by first|omega|(simp;omega),lh ⟨HRG8.out.1.set (j:=2) (by simp) _,HRG8.out.2.set 2 ns_slice⟩,lh (by rw [HTS.out,hn8l.out];simp),lh (by rw [HTS.out];exact HSO8.out.ch (Ch.set (K:=fun j=>j=w4.heap.size) (p:=⟨w4.heap.size,2,none⟩) rfl HRG8.out.2 _) (fun j hj e=>by have:=(HSO8.out.own j hj).1;omega)),lh (HLO8.out.setCell (p:=⟨w4.heap.size,2,none⟩) (Nat.le_refl _) _)⟩
       case measure=>simp [intOf];omega
     ·obtain rfl:k=hs3.length:=by omega
      rw [show hs3.length=(hs3.map Ho.p).length from (List.length_map _).symm,topK_all,← HRE.out] at HN7
      rw [show hs3.length=(hs3.map Ho.p).length from (List.length_map _).symm,topK_all,← HRE.out] at HSO
      have HS:=(HS4.out.at_.go HLO.out).out
      obtain ⟨r0,r1,r2⟩:=(HS.get 1 rfl).c3
      have f0:=(HS.get 1 rfl).2.1 0
      have f1:=(HS.get 1 rfl).2.1 1
      have f2:=(HS.get 1 rfl).2.1 2
      have HSX:=lh HS
      have HOWN:=lh (fun j hj=>(HSO.out.own j hj).1)
      clear HS
      go_wp2_with fail
      refine bodyPost_ret (v:=.agg #[.slice E b.1.length f,.bool b.2,.slice A7 n7 c7]) (by simp [results,Tryz.results74,go_sem,r0,r1,r2,f0,f1,f2]) rfl ?_
      have hch:∀ (K:Nat→Prop),K (w.heap.size+1)→Ch K wr (((wr.setCell ⟨w.heap.size+1,0,none⟩ (.slice E b.1.length f)).setCell ⟨w.heap.size+1,1,none⟩ (.bool b.2)).setCell ⟨w.heap.size+1,2,none⟩ (.slice A7 n7 c7)):=fun K hK=>ch_set3 hK (HSX.out.ns 1 rfl) ns_slice ns_bool _
      obtain ⟨A9,c9,e9,hsv,hnil,hbl⟩:=HSO.out.read (fun j hj e=>by omega)
      cases e9
      refine ⟨E,f,A7,c7,by rw [HN7.out],⟨(HRT.out.below HLO.out).ch (hch (fun _=>True) trivial),?_,hnil,fun a ea=>Nat.le_trans (by omega) (hbl a ea)⟩,below_set3 HSX.out.low (by omega) _ _ _⟩
      exact (hsv.bt).ch (K:=fun j=>j=w.heap.size+1) (fun h0 a ea e=>by have:=hbl a ea;omega) (hch _ rfl)
open Go.RowKit
def RetO (w:World) (ps:List Pn) (e:Ending) (w':World):Prop:=∃ v,e=.returned v∧SO elP w' w.heap.size 45 v kN ps∧Below w.heap.size w w'
theorem zero_ns {z:Array Value} (h0:0<z.size) (hz:∀ u∈z.toList,nsV u) (q:Nat):∀ u∈(Builtin.zeroCells z q).toList,nsV u:=fun u hu=>by
 unfold Builtin.zeroCells at hu
 rw [Array.toList_map] at hu
 obtain ⟨j,hj,rfl⟩:=List.mem_map.1 hu
 have hp:j % z.size<z.size:=Nat.mod_lt _ h0
 rw [getElem!_pos z _ hp]
 exact hz _ (by simp)
theorem zeroP_ns (q:Nat):∀ u∈(Builtin.zeroCells (Value.agg #[.slice none 0 0,.bool false]).cells q).toList,nsV u:=zero_ns (by decide) (fun u hu=>by
 simp only [Value.cells,List.mem_cons,List.not_mem_nil,or_false] at hu
 rcases hu with rfl|rfl<;>(intro x e;cases e)) q
theorem so_made {w:World} {cur:Array Value} {cap:Nat} {base:Nat} (hb:base≤w.heap.size) (hm:cap≤maxLen) (hs:cur.size=cap * 2) (hn:∀ u∈cur.toList,nsV u) {g:Nat} (hg:g=w.heap.size) :
 SO elP (w.alloc (.cells cur 45)) base 45 (.slice (some ⟨g,0,none⟩) 0 cap) kN []:=by
 subst hg
 exact ⟨[],⟨World.ownsRow_made w cur cap hb hm hs,fun r hr=>by cases hr⟩,Rel.nil _ _ _,fun k hk=>by cases hk;exact NSB.of (heap_alloc_new w _) hn⟩
set_option maxRecDepth 100000 in
theorem grow_nil (n:Nat) (w:World) (hn:n≤1000000) :
 Calls Tryz.prog 76 #[.slice none 0 0,.int .i64 n] w (RetO w []):=by
 have w1:IntKind.i64.wrap (n:Int)=(n:Int):=IntWalk.i64_in _ (by omega)
 have h1:¬ ((n:Int)<0):=by omega
 by_cases h0:0<n
 ·have h2:decide ((0:Int)<(n:Int))=true:=by simp;omega
  have hrun:Hid (∀ ty,∃ v' w',(Builtin.append_ #[46,3] ty #[.slice none 0 0,.int .i64 n]).run Tryz.prog w=.ok v' w'∧∃ cap,v'=.slice (some ⟨w.heap.size,0,none⟩) n cap∧n≤cap∧SO elP w' w.heap.size 45 (.slice (some ⟨w.heap.size,0,none⟩) 0 cap) kN []∧Below w.heap.size w w'):=lh (fun ty=>by
   obtain ⟨i,hi,hz,hs,hb⟩:=info_parts (show (Tryz.prog.info? 45).map (fun i=>(i.zero,i.size,i.bytes))=some (some (.agg #[.slice none 0 0,.bool false]),2,32) by kernel_rfl)
   have hr:=Lib.run_append_nil_zeros (P:=Tryz.prog) w 46 3 ty 45 i _ .i64 .i64 Tryz.underlying46 Tryz.underlying3 hi hz n h0 (by omega) (by omega) (by rw [hb];omega)
   have hge:=grownCap_ge w n 0 45
   have hcm:grownCap w n 0 45≤maxLen:=grownCap_le_maxLen w n 0 45 (by simp only [maxLen];omega)
   refine ⟨_,_,hr,_,rfl,hge,so_made (w:=w.drew) (Nat.le_refl _) hcm ?_ ?_ rfl,below_al (Below.refl _ _).drew _⟩
   ·simp only [Array.size_append,size_zeroCells,Value.cells]
    rw [show (#[Value.slice none 0 0,Value.bool false]:Array Value).size=2 from rfl,← Nat.add_mul]
    congr 1
    omega
   ·intro u hu
    simp only [Array.toList_append,List.mem_append] at hu
    rcases hu with hu|hu<;>exact zeroP_ns _ u hu)
  go_enter Tryz.func76,Tryz.ntmps76
  go_wp2_with (at_builtin;obtain ⟨v',w',hr,cap,rfl,hnc,hso,hb⟩:=hrun.out _;refine Lib.wpList_append_run _ rfl _ _ _ _ rfl _ _ rfl rfl _ _ hr ?_)
  go_ret
  exact ⟨_,rfl,hso,hb⟩
 ·obtain rfl:n=0:=by omega
  go_enter Tryz.func76,Tryz.ntmps76
  go_wp2_with fail
  go_ret
  exact ⟨_,rfl,SO.nil _ _ _ _ _,Below.refl _ _⟩
set_option maxRecDepth 100000 in
theorem concat2_any (g c2:Nat) (A B:Option Addr) (c d:Nat) (ps qs:List Pn) (w:World) (hg:BX w g [.slice A ps.length c,.slice B qs.length d]) (h:BT w A c ps) (k:BT w B d qs) (hl:ps.length+qs.length≤1000000) (hc2:2≤c2) (hc3:c2≤9223372036854775807) :
 Calls Tryz.prog 40 #[.slice (some ⟨g,0,none⟩) 2 c2] w (RetO w (ps++qs)):=by
 have HG:=lh hg
 have HA:=lh h
 have HB:=lh k
 have h1:=h.1
 have h2:=h.2.1
 have k1:=k.1
 have k2:=k.2.1
 clear hg h k
 generalize hn:ps.length=n at *
 generalize hm:qs.length=m at *
 have HN:=lh hn
 have HM:=lh hm
 clear hn hm
 obtain ⟨g0,g1⟩:=HG.out.c2
 have hgl:=HG.out.2.2
 go_enter Tryz.func40,Tryz.ntmps40
 go_wp2_with fail
 go_loopw [3,11] (fun s3 s11 wr=>∃ k z:Nat,k≤2∧s11=.int .i64 k∧s3=.int .i64 z∧Hid ((k=0∧z=0)∨(k=1∧z=n)∨(k=2∧z=n+m))∧Hid (Below w.heap.size w wr)) (fun _ s _=>2-(intOf s).toNat)
 case atStart=>exact ⟨0,0,by omega,rfl,rfl,lh (.inl ⟨rfl,rfl⟩),lh (Below.refl _ _)⟩
 case round =>
  clear g0 g1
  obtain ⟨k,z,hk,rfl,rfl,HZ,HW⟩:=hrel
  obtain ⟨g0,g1⟩:=(HG.out.below HW.out).c2
  rcases HZ.out with ⟨rfl,rfl⟩|⟨rfl,rfl⟩|⟨rfl,rfl⟩
  ·have i1:IntKind.i64.wrap ((0:Int)+(n:Int))=(n:Int):=by rw [Int.zero_add];exact IntWalk.i64_in _ (by omega)
   have i2:¬ ((n:Int)<0):=by omega
   go_wp2_with fail
   go_roundw
   case rel=>exact ⟨1,n,by omega,by go_num,by go_num,lh (.inr (.inl ⟨rfl,rfl⟩)),HW⟩
   case measure=>simp [intOf]
  ·have i2:¬ ((z:Int)+(m:Int)<0):=by omega
   go_wp2_with fail
   go_roundw
   case rel=>exact ⟨2,z+m,by omega,by go_num,by go_num,lh (.inr (.inr ⟨rfl,rfl⟩)),HW⟩
   case measure=>simp [intOf]
  ·have HGR:=lh (fun W=>grow_nil (n+m) W hl)
   have hcast:((n+m:Nat):Int)=(n:Int)+(m:Int):=by omega
   go_wp2_with (go_at_call 76;refine (HGR.out _).mono ?_;rintro e w1 ⟨v1,rfl,hso,hb1⟩;have HSO:=lh hso;have HB1:=lh hb1;clear hso hb1)
   clear g0 g1
   obtain ⟨wt,rfl⟩:∃ wt,wt=wr:=⟨wr,rfl⟩
   go_loopw [6,27] (fun s6 s27 wx=>∃ k:Nat,k≤2∧s27=.int .i64 k∧wt.heap.size≤wx.heap.size∧Hid (SO elP wx wt.heap.size 45 s6 kN (if k=0 then [] else if k=1 then ps else ps++qs))∧Hid (Below wt.heap.size wt wx)) (fun _ s _=>2-(intOf s).toNat)
   case atStart=>exact ⟨0,by omega,rfl,HB1.out.size,HSO,HB1⟩
   case round =>
    clear HSO HB1
    obtain ⟨k,hk,rfl,hsz,HSO,HB1⟩:=hrel
    have HLW:=lh (go3 HW.out HB1.out)
    obtain ⟨g0,g1⟩:=(HG.out.below HLW.out).c2
    have hk3:k=0∨k=1∨k=2:=by omega
    rcases hk3 with rfl|rfl|rfl
    ·obtain ⟨rows,hrr,hrel,-⟩:=BT.sv (K:=kN) (HA.out.below HLW.out) (fun _ _ _ h=>h)
     have HRR:=lh hrr
     have HRL:=lh hrel
     clear hrr hrel
     go_wp2_with (at_builtin;refine wpList_append_so elP elPT rfl _ _ rfl wt.heap.size _ kN [] ps A n c HN.out.symm rfl rfl HSO.out rows HRR.out HRL.out (by simp;have:=HN.out;omega) hsz ?_;intro v8 w8 hso8 hg8 hor8;have HSO8:=lh hso8;have HB8:=lh (HB1.out.grown hg8 hsz (fun j hj=>(HSO.out.own j hj).1));have hz8:=Nat.le_trans hsz hg8.size;clear hso8 hg8 hor8)
     go_roundw
     case rel=>exact ⟨1,by omega,by go_num,hz8,lh (by simpa using HSO8.out),HB8⟩
     case measure=>simp [intOf]
    ·have HSO1:Hid (SO elP wr wt.heap.size 45 u6 kN ps):=lh (by have:=HSO.out;simpa using this)
     obtain ⟨rows,hrr,hrel,-⟩:=BT.sv (K:=kN) (HB.out.below HLW.out) (fun _ _ _ h=>h)
     have HRR:=lh hrr
     have HRL:=lh hrel
     clear hrr hrel
     go_wp2_with (at_builtin;refine wpList_append_so elP elPT rfl _ _ rfl wt.heap.size _ kN ps qs B m d HM.out.symm rfl rfl HSO1.out rows HRR.out HRL.out (by have:=HN.out;have:=HM.out;omega) hsz ?_;intro v8 w8 hso8 hg8 hor8;have HSO8:=lh hso8;have HB8:=lh (HB1.out.grown hg8 hsz (fun j hj=>(HSO.out.own j hj).1));have hz8:=Nat.le_trans hsz hg8.size;clear hso8 hg8 hor8)
     go_roundw
     case rel=>exact ⟨2,by omega,by go_num,hz8,lh (by simpa using HSO8.out),HB8⟩
     case measure=>simp [intOf]
    ·go_wp2_with fail
     go_ret
     exact ⟨_,rfl,(by have:=HSO.out;simp only [if_false,show ¬ (2=0) by decide,show ¬ (2=1) by decide] at this;exact this.baseN HW.out.size),HLW.out⟩
set_option maxRecDepth 100000 in
theorem cloneP_any (A:Option Addr) (c:Nat) (ps:List Pn) (w:World) (h:BT w A c ps) (hl:ps.length≤1000000) :
 Calls Tryz.prog 30 #[.slice A ps.length c] w (RetO w ps):=by
 have HA:=lh h
 have h1:=h.1
 have h2:=h.2.1
 clear h
 cases A with
 | none =>
  have h0:ps=[]:=by
   rcases Nat.eq_zero_or_pos ps.length with e|e
   ·exact List.eq_nil_of_length_eq_zero e
   ·obtain ⟨b,o,e2,_⟩:=HA.out.2.2 e
    cases e2
  subst h0
  have hq:∀ W,(binOp .eql 46 (.slice none 0 c) (.slice none 0 0)).run Tryz.prog W=.ok (.bool true) W:=fun W=>Lib.run_eql_slice_nil W _ _ none 0 c 0 0 Tryz.underlying46
  go_enter Tryz.func30,Tryz.ntmps30
  go_wp2_with fail
  go_ret
  exact ⟨_,rfl,SO.nil _ _ _ _ _,Below.refl _ _⟩
 | some a =>
  have hq:∀ W,(binOp .eql 46 (.slice (some a) ps.length c) (.slice none 0 0)).run Tryz.prog W=.ok (.bool false) W:=fun W=>Lib.run_eql_slice_nil W _ _ (some a) ps.length c 0 0 Tryz.underlying46
  go_enter Tryz.func30,Tryz.ntmps30
  have HA1:=lh (HA.out.below (ba w (.cells #[] 45)))
  obtain ⟨rows,hrr,hrel,-⟩:=BT.sv (K:=kN) HA1.out (fun _ _ _ h=>h)
  have HRR:=lh hrr
  have HRL:=lh hrel
  clear hrr hrel
  have HSO:Hid (SO elP (w.alloc (.cells #[] 45)) w.heap.size 45 (.slice (some ⟨w.heap.size,0,none⟩) 0 0) kN []):=lh (so_made (Nat.le_refl _) (by simp [maxLen]) rfl (fun u hu=>by simp at hu) rfl)
  go_wp2_with (at_builtin;refine wpList_append_so elP elPT rfl _ _ rfl w.heap.size _ kN [] ps (some a) ps.length c rfl rfl rfl HSO.out rows HRR.out HRL.out (by simp;omega) (by simp) ?_;intro v8 w8 hso8 hg8 hor8;have HSO8:=lh hso8;have HB8:=lh ((ba w (.cells #[] 45)).grown hg8 (by simp) (fun j hj=>(HSO.out.own j hj).1));clear hso8 hg8 hor8)
  go_ret
  exact ⟨_,rfl,HSO8.out,HB8.out⟩
end Go.Proofs.YtelkmeiepliecaaGreatDoor

/-
  Part 28 of the proof.
-/
import Derived.Test.YtelkmeiepliecaaGreatDoorU27
set_option linter.unusedSimpArgs false
set_option linter.unusedVariables false
set_option maxHeartbeats 16000000
namespace Go.Proofs.YtelkmeiepliecaaGreatDoor
open Go.RowKit
theorem SV.en {w:World} {K:Nat→Prop} {A0:Option Addr} {c0:Nat} {m:List En} (h:SV elE w K A0 c0 m) {j:Nat} {e:En} (hx:m[j]? = some e) :
 ∃ b o A c B d H n,A0=some ⟨b,o,none⟩∧w.cell? ⟨b,o+j * 5,none⟩=some (.slice A e.1.1.length c)∧w.cell? ⟨b,o+j * 5+1,none⟩=some (.bool e.1.2)∧w.cell? ⟨b,o+j * 5+2,none⟩=some (.slice B e.2.1.1.length d)∧w.cell? ⟨b,o+j * 5+3,none⟩=some (.bool e.2.1.2)∧w.cell? ⟨b,o+j * 5+4,none⟩=some (.slice H e.2.2.length n)∧EG w e A c B d H n∧(0<e.2.2.length→∀ a,H=some a→¬ K a.block):=by
 obtain ⟨b,o,r,ea,_,hc,A,c,B,d,H,n,rfl,k1,k2⟩:=h.at_ hx
 exact ⟨b,o,A,c,B,d,H,n,ea,hc 0 _ rfl,hc 1 _ rfl,hc 2 _ rfl,hc 3 _ rfl,hc 4 _ rfl,k1,k2⟩
def lfR (e:En):Rg:=(e.1,e.2.2)
def rtR (e:En):Rg:=(e.2.1,nrsR e.1 e.2.1 e.2.2)
def badE (a b:En):Bool:=cmnF (lfR a) (lfR b) || cmnF (rtR a) (rtR b)
def ovlI (m:List En) (i:Nat) (k:Nat):Bool:=(List.range k).any fun j=>match m[i]?,m[j]? with
 | some a,some b=>badE a b
 | _,_=>false
def ovl (m:List En):Bool:=(List.range m.length).any fun i=>ovlI m i i
def rgtsE (m:List En):Bool:=m.any fun e=>nrsE e.1 e.2.1 e.2.2
def chkM (m:List En):Int:=if rgtsE m=true then 72 else if ovl m=true then 71 else 0
def RetChk (w:World) (m:List En) (x:Ending) (w':World):Prop:=∃ i:Int,x=.returned (.tuple #[.int .i64 i,.int .i64 (chkM m)])∧Below w.heap.size w w'
theorem nrR_ok {l r q:Pn} (h:nrO l r q=true):rlOk (nrL l r q) (nrR l r q)∧okPn (nrL l r q)∧okPn (nrR l r q):=by
 have h1:=nar_rule (show narO l.1 l.2 r.1 r.2 q.1 q.2=true from h)
 obtain ⟨k1,k2,_⟩:=ruleE_zero.1 h1
 exact ⟨h1,k1,k2⟩
theorem nrsR_okp {l r:Pn} {hs:List Pn}:∀ x∈nrsR l r hs,okPn x:=fun x hx=>by
 obtain ⟨q,hq,rfl⟩:=List.mem_map.1 hx
 exact (nrR_ok (List.mem_filter.1 hq).2).2.2
theorem nrsR_sz {m:Nat} {l r:Pn} {hs:List Pn} (h1:szN m l) (h2:szN m r) (h3:∀ h∈hs,szN m h):∀ x∈nrsR l r hs,szN (m+m) x:=fun x hx=>by
 obtain ⟨q,hq,rfl⟩:=List.mem_map.1 hx
 exact (nar_sz (r:=l.2) (t:=r.2) (u:=q.2) h1 h2 (h3 q (List.mem_filter.1 hq).1)).2
theorem lfR_ok {e:En} (h:okEn e):okRg (lfR e):=h.2
theorem rtR_ok {e:En} (h:okEn e):okRg (rtR e):=⟨(ruleE_zero.1 h.1).2.1,nrsR_okp,Nat.le_trans (nrsR_len _ _ _) h.2.2.2⟩
theorem lfR_sz {e:En} (h:szE 2400 e):szR 5000 (lfR e):=⟨fun x hx=>Nat.le_trans (h.1 x hx) (by omega),fun q hq x hx=>Nat.le_trans (h.2.2 q hq x hx) (by omega)⟩
theorem rtR_sz {e:En} (h:szE 2400 e):szR 5000 (rtR e):=⟨fun x hx=>Nat.le_trans (h.2.1 x hx) (by omega),fun q hq x hx=>Nat.le_trans (nrsR_sz h.1 h.2.1 h.2.2 q hq x hx) (by omega)⟩
def RtsOk (w:World) (G:Nat) (m:List En) (k:Nat):Prop:=∃ cs:List Value,BX w G cs∧NSB w G∧cs.length=m.length * 3∧∀ (j:Nat) (e:En),j<k→m[j]? = some e→∃ B d A c,cs[j * 3]? = some (.slice B e.2.1.1.length d)∧cs[j * 3+1]? = some (.bool e.2.1.2)∧cs[j * 3+2]? = some (.slice A (nrsR e.1 e.2.1 e.2.2).length c)∧RG w (rtR e) B d A c∧∀ a,A=some a→a.block≠G
theorem RtsOk.below {w w':World} {G:Nat} {m:List En} {k:Nat} (h:RtsOk w G m k) (hb:Below w.heap.size w w'):RtsOk w' G m k:=by
 obtain ⟨cs,h1,h2,h3,h4⟩:=h
 refine ⟨cs,h1.below hb,h2.below h1.2.2 hb,h3,fun j e hj he=>?_⟩
 obtain ⟨B,d,A,c,k1,k2,k3,k4,k5⟩:=h4 j e hj he
 exact ⟨B,d,A,c,k1,k2,k3,k4.below hb,k5⟩
theorem RtsOk.lt {w:World} {G:Nat} {m:List En} {k:Nat} (h:RtsOk w G m k):G<w.heap.size:=by
 obtain ⟨cs,h1,_⟩:=h
 exact h1.2.2
theorem RtsOk.at_ {w:World} {G:Nat} {m:List En} {k j:Nat} (h:RtsOk w G m k) (hj:j<m.length):(∃ u0 u1 u2,w.cell? ⟨G,j * 3,none⟩=some u0∧w.cell? ⟨G,j * 3+1,none⟩=some u1∧w.cell? ⟨G,j * 3+2,none⟩=some u2)∧w.frozen? ⟨G,j * 3,none⟩=false∧w.frozen? ⟨G,j * 3+1,none⟩=false∧w.frozen? ⟨G,j * 3+2,none⟩=false:=by
 obtain ⟨cs,h1,h2,h3,h4⟩:=h
 exact ⟨⟨_,_,_,h1.1 _ _ (gE (by omega)),h1.1 _ _ (gE (by omega)),h1.1 _ _ (gE (by omega))⟩,h1.2.1 _,h1.2.1 _,h1.2.1 _⟩
theorem RtsOk.getB {w:World} {G:Nat} {m:List En} {k j:Nat} {e:En} (h:RtsOk w G m k) (hj:j<k) (he:m[j]? = some e):∃ B d A c,RG w (rtR e) B d A c∧∀ W,Below w.heap.size w W→W.cell? ⟨G,j * 3,none⟩=some (.slice B e.2.1.1.length d)∧W.cell? ⟨G,j * 3+1,none⟩=some (.bool e.2.1.2)∧W.cell? ⟨G,j * 3+2,none⟩=some (.slice A (nrsR e.1 e.2.1 e.2.2).length c):=by
 obtain ⟨cs,h1,h2,h3,h4⟩:=h
 obtain ⟨B,d,A,c,k1,k2,k3,k4,_⟩:=h4 j e hj he
 exact ⟨B,d,A,c,k4,fun W hW=>⟨(h1.below hW).1 _ _ k1,(h1.below hW).1 _ _ k2,(h1.below hW).1 _ _ k3⟩⟩
theorem RtsOk.step {w:World} {G:Nat} {m:List En} {k:Nat} {e:En} (h:RtsOk w G m k) (he:m[k]? = some e) {B:Option Addr} {d:Nat} {A:Option Addr} {c:Nat} (hg:RG w (rtR e) B d A c) (ha:∀ a,A=some a→a.block≠G) :
 RtsOk (((w.setCell ⟨G,k * 3,none⟩ (.slice B e.2.1.1.length d)).setCell ⟨G,k * 3+1,none⟩ (.bool e.2.1.2)).setCell ⟨G,k * 3+2,none⟩ (.slice A (nrsR e.1 e.2.1 e.2.2).length c)) G m (k+1):=by
 obtain ⟨cs,h1,h2,h3,h4⟩:=h
 have hk:=(sI.1 he).1
 have hc:Ch (fun j=>j=G) w (((w.setCell ⟨G,k * 3,none⟩ (.slice B e.2.1.1.length d)).setCell ⟨G,k * 3+1,none⟩ (.bool e.2.1.2)).setCell ⟨G,k * 3+2,none⟩ (.slice A (nrsR e.1 e.2.1 e.2.2).length c)) :=
  ((Ch.set (K:=fun j=>j=G) (p:=⟨G,k * 3,none⟩) rfl h2 _).trans (Ch.set (K:=fun j=>j=G) (p:=⟨G,k * 3+1,none⟩) rfl (h2.set _ ns_slice) _)).trans (Ch.set (K:=fun j=>j=G) (p:=⟨G,k * 3+2,none⟩) rfl ((h2.set _ ns_slice).set _ ns_bool) _)
 refine ⟨((cs.set (k * 3) (.slice B e.2.1.1.length d)).set (k * 3+1) (.bool e.2.1.2)).set (k * 3+2) (.slice A (nrsR e.1 e.2.1 e.2.2).length c),((h1.set (by omega) _).set (by rw [List.length_set];omega) _).set (by rw [List.length_set,List.length_set];omega) _,((h2.set _ ns_slice).set _ ns_bool).set _ ns_slice,by rw [List.length_set,List.length_set,List.length_set];exact h3,fun j q hj hq=>?_⟩
 rcases Nat.lt_or_ge j k with hlt|hge
 ·obtain ⟨B',d',A',c',k1,k2,k3,k4,k5⟩:=h4 j q hlt hq
  refine ⟨B',d',A',c',?_,?_,?_,⟨k4.1.ch hc,k4.2.ch (fun _ a ea=>k5 a ea) hc⟩,k5⟩
  ·rw [List.getElem?_set_ne (by omega),List.getElem?_set_ne (by omega),List.getElem?_set_ne (by omega)];exact k1
  ·rw [List.getElem?_set_ne (by omega),List.getElem?_set_ne (by omega),List.getElem?_set_ne (by omega)];exact k2
  ·rw [List.getElem?_set_ne (by omega),List.getElem?_set_ne (by omega),List.getElem?_set_ne (by omega)];exact k3
 ·obtain rfl:j=k:=by omega
  rw [he] at hq
  cases hq
  refine ⟨B,d,A,c,?_,?_,?_,⟨hg.1.ch hc,hg.2.ch (fun _ a ea=>ha a ea) hc⟩,ha⟩
  ·rw [List.getElem?_set_ne (by omega),List.getElem?_set_ne (by omega),List.getElem?_set_self (by omega)]
  ·rw [List.getElem?_set_ne (by omega),List.getElem?_set_self (by rw [List.length_set];omega)]
  ·rw [List.getElem?_set_self (by rw [List.length_set,List.length_set];omega)]
theorem made_ns {z:Array Value} (h0:0<z.size) (hz:∀ u∈z.toList,nsV u) (q:Nat):∀ u∈(madeCells z q).toList,nsV u:=fun u hu=>by
 unfold madeCells at hu
 rw [Array.toList_map] at hu
 obtain ⟨j,hj,rfl⟩:=List.mem_map.1 hu
 have hp:j % z.size<z.size:=Nat.mod_lt _ h0
 rw [getElem!_pos z _ hp]
 exact hz _ (by simp)
theorem RtsOk.made {w:World} {m:List En} {G:Nat} (hG:G=w.heap.size):RtsOk (w.alloc (.cells (madeCells #[.slice none 0 0,.bool false,.slice none 0 0] (m.length * 3)) 48)) G m 0:=by
 subst hG
 exact ⟨(madeCells #[.slice none 0 0,.bool false,.slice none 0 0] (m.length * 3)).toList,BX.new w _ _ rfl,NSB.of (heap_alloc_new w _) (made_ns (by decide) (ns3 ns_slice ns_bool ns_slice) _),by rw [Array.length_toList,size_madeCells],fun j e hj=>by omega⟩
theorem make_regs (n:Nat) (hn:n≤1000) (w:World):(Instr.makeSlice 41 (.int .i64 (n:Int)) (.int .i64 (n:Int))).run Tryz.prog w=.ok (.slice (some ⟨w.heap.size,0,none⟩) n n) (w.alloc (.cells (madeCells #[.slice none 0 0,.bool false,.slice none 0 0] (n * 3)) 48)):=by
 obtain ⟨i,hi,hz,hs,hb⟩:=info_parts (show (Tryz.prog.info? 48).map (fun i=>(i.zero,i.size,i.bytes))=some (some (.agg #[.slice none 0 0,.bool false,.slice none 0 0]),3,56) by kernel_rfl)
 have h:=run_makeSlice (P:=Tryz.prog) w 41 48 i _ Tryz.underlying41 hi hz .i64 .i64 (n:Int) (n:Int) (by omega) (Int.le_refl _) (by rw [hs,Int.toNat_natCast];omega) (by rw [hb];omega) (by omega)
 rw [hs,Int.toNat_natCast] at h
 exact h
section
variable {P:Program} {ops:Array Oper} {Q:Exit→Act→World→Prop} {md:Region.Mode} {S:World→Prop}
theorem takeH {i:Nat} {oi:Oper} {v:Value} {fuel:Nat} {listed:Array Bool} {a:Act} {w:World} (d:Tmp) (hi:ops[i]? = some oi) (hd:oi.dst=some d)
 (hs:Region.noSelect ops=true) (hf:Region.free md ops listed i=true) (hr:(Region.ready md ops listed).contains i=true)
 (hQ:∀ c a w,Q (.panic c) (a.put (some d) v) w→Q (.panic c) a w) (hy:YieldsIf P ops S oi v a) (hS:S w)
 (h:wpAnyH P md ops Q S fuel (listed.setIfInBounds i true) (a.put (some d) v) w):wpAnyH P md ops Q S (fuel+1) listed a w :=
 wpAnyH_take hi hs hf hr (by rw [hd];exact hQ) hy hS (by rw [hd];exact h)
theorem tK (i:Nat) {oi:Oper} {v:Value} {fuel:Nat} {listed:Array Bool} {a:Act} {w:World} (d:Tmp) (hi:ops[i]? = some oi) (hd:oi.dst=some d)
 (hy:YieldsIf P ops S oi v a) (hS:S w)
 (h:wpAnyH P md ops Q S fuel (listed.setIfInBounds i true) (a.put (some d) v) w) (hs:Region.noSelect ops=true:=by kernel_rfl) (hf:Region.free md ops listed i=true:=by kernel_rfl) (hr:(Region.ready md ops listed).contains i=true:=by kernel_rfl)
 (hQ:∀ c a w,Q (.panic c) (a.put (some d) v) w→Q (.panic c) a w:=by exact fun _ _ _ h=>h):wpAnyH P md ops Q S (fuel+1) listed a w :=
 takeH d hi hd hs hf hr hQ hy hS h
end
def okM (m:List En):Prop:=(∀ e∈m,okEn e∧szE 2400 e)∧m.length≤32
theorem szE_up {a b:Nat} (hab:a≤b) {e:En} (h:szE a e):szE b e:=⟨fun x hx=>Nat.le_trans (h.1 x hx) hab,fun x hx=>Nat.le_trans (h.2.1 x hx) hab,fun q hq x hx=>Nat.le_trans (h.2.2 q hq x hx) hab⟩
set_option maxRecDepth 100000 in
theorem chk_any (m:List En) (K:Nat→Prop) (A0:Option Addr) (c0:Nat) (w:World) (hsv:SV elE w K A0 c0 m) (ok:okM m) (hm:ML w) :
 Calls Tryz.prog 32 #[.slice A0 m.length c0] w (RetChk w m):=by
 have HSV:=lh hsv
 have HOK:=lh ok.1
 have HM:=lh hm
 have hl:=ok.2
 have q1:=hsv.lenc
 have q2:=hsv.capc
 clear hsv ok hm
 go_enter Tryz.func32,Tryz.ntmps32
 go_wp2_with fail
 go_loopw [17] (fun s wr=>∃ k:Nat,k≤m.length∧s=.int .i64 k∧Hid (Below w.heap.size w wr)) (fun s _=>m.length-(intOf s).toNat)
 case atStart=>exact ⟨0,Nat.zero_le _,rfl,lh (Below.refl _ _)⟩
 case round =>
  obtain ⟨k,hk,rfl,HB⟩:=hrel
  by_cases hlt:k<m.length
  ·obtain ⟨e,he⟩:∃ e,m[k]? = some e:=⟨_,gE hlt⟩
   obtain ⟨b,o,A,c,B,d,H,n,rfl,x0,x1,x2,x3,x4,heg,-⟩:=(HSV.out.below HB.out).en he
   have HIE:=lh (fun W (h:Below wr.heap.size wr W)=>isEntry_any e A B H c d n W (heg.below h) (HOK.out e (mG he)).1 (szE_up (by omega) (HOK.out e (mG he)).2) (HM.out.below (go3 HB.out h)))
   clear he heg
   go_wp2_with (go_at_call 61;refine (HIE.out _ bB).mono ?_;rintro x w1 ⟨rfl,hb1⟩;have HB1:=lh (go3 HB.out (go3 (ba _ _) hb1));clear hb1)
   go_roundw
   case rel=>exact ⟨k+1,by omega,by go_num,HB1⟩
   case measure=>simp [intOf];omega
  ·obtain rfl:k=m.length:=by omega
   have i1:decide ((32:Int)<(m.length:Int))=false:=by simp;omega
   have hmk:=make_regs m.length (by omega) wr
   go_wp2_with fail
   obtain ⟨wt,rfl⟩:∃ wt,wt=wr:=⟨wr,rfl⟩
   have HB0:=lh HB.out
   clear HB hmk
   go_loopw [35] (fun s wr=>∃ k:Nat,k≤m.length∧s=.int .i64 k∧Hid (RtsOk wr wt.heap.size m k)∧Hid (Below w.heap.size w wr)∧Hid (∀ j e,j<k→m[j]? = some e→nrsE e.1 e.2.1 e.2.2=false)) (fun s _=>m.length-(intOf s).toNat)
   case atStart=>exact ⟨0,Nat.zero_le _,rfl,lh (RtsOk.made rfl),lh (go3 HB0.out (ba _ _)),lh (fun j e hj=>by omega)⟩
   case round =>
    obtain ⟨k,hk,rfl,HRO,HB,HER⟩:=hrel
    have hGl:=HRO.out.lt
    have hwt:=HB0.out.size
    by_cases hlt:k<m.length
    ·obtain ⟨e,he⟩:∃ e,m[k]? = some e:=⟨_,gE hlt⟩
     obtain ⟨b,o,A,c,B,d,H,n,rfl,x0,x1,x2,x3,x4,heg,-⟩:=(HSV.out.below HB.out).en he
     have HRT:=lh (fun W (h:Below wr.heap.size wr W)=>right_any e A B H c d n W (heg.below h) (HOK.out e (mG he)).1 (szE_up (by omega) (HOK.out e (mG he)).2) (HM.out.below (go3 HB.out h)))
     have HEG:=lh heg.2.1
     have HE:=lh he
     have hb5:=cell_lt x0
     simp only at hb5
     clear he heg
     have HQ:At (fun W=>RtsOk W wt.heap.size m k∧Below w.heap.size w W∧RT W B d e.2.1.1) wr:=⟨fun X Y h hb=>⟨h.1.below hb,go3 h.2.1 hb,h.2.2.below hb⟩,HRO.out,HB.out,HEG.out⟩
     cases hq:nrsE e.1 e.2.1 e.2.2 with
     | false =>
      have HR2:=lh (fun W h=>(HRT.out W h).mono fun _ _ h=>h.1 hq)
      have HER2:Hid (∀ j e,j<k+1→m[j]? = some e→nrsE e.1 e.2.1 e.2.2=false):=lh (fun j q hj hjq=>by
       rcases Nat.lt_or_ge j k with h1|h1
       ·exact HER.out j q h1 hjq
       ·obtain rfl:j=k:=by omega
        rw [HE.out] at hjq
        cases hjq
        exact hq)
      clear hq HRT HER HRO HB
      go_wp2_with (go_at_call 24;refine (HR2.out _ (ba _ _)).mono ?_;rintro x w1 ⟨A3,c3,rfl,⟨hbt,hfr⟩,hb1⟩;replace HQ:=HQ.go2 (ba _ _) hb1;obtain ⟨⟨u0,u1,u2,y0,y1,y2⟩,f0,f1,f2⟩:=HQ.out.1.at_ hlt;have HBT:=lh hbt;have HFR:Hid (∀ a,A3=some a→a.block≠wt.heap.size):=lh (fun a ea=>by have:=hfr a ea;simp only [World.size_alloc] at this;omega);have hG1:=HQ.out.1.lt;clear hbt hfr hb1)
      go_roundw
      case rel=>exact ⟨k+1,by omega,by go_num,lh ((HQ.out.1.step HE.out ⟨HQ.out.2.2,HBT.out⟩ HFR.out).below (ba _ _)),lh (below_al (((HQ.out.2.1.setCell (p:=⟨wt.heap.size,k * 3,none⟩) hwt _).setCell (p:=⟨wt.heap.size,k * 3+1,none⟩) hwt _).setCell (p:=⟨wt.heap.size,k * 3+2,none⟩) hwt _) _),HER2⟩
      case measure=>simp [intOf];omega
     | true =>
      have HR2:=lh (fun W h=>(HRT.out W h).mono fun _ _ h=>h.2 hq)
      have HCE:Hid (chkM m=72):=lh (by
       unfold chkM rgtsE
       rw [if_pos (List.any_eq_true.2 ⟨e,mG HE.out,hq⟩)])
      clear hq HRT HER HRO HB
      go_wp2_with (go_at_call 24;refine (HR2.out _ (ba _ _)).mono ?_;rintro x w1 ⟨rfl,hb1⟩;replace HQ:=HQ.go2 (ba _ _) hb1;clear hb1)
      go_ret2
      exact ⟨0,by rw [HCE.out];rfl,(HQ.go bB).out.2.1⟩
    ·obtain rfl:k=m.length:=by omega
     have HNR:Hid (rgtsE m=false):=lh (by
      unfold rgtsE
      rw [List.any_eq_false]
      intro e he
      obtain ⟨j,hj⟩:=List.mem_iff_getElem?.1 he
      rw [HER.out j e (sI.1 hj).1 hj]
      decide)
     obtain ⟨wo,rfl⟩:∃ wo,wo=wr:=⟨wr,rfl⟩
     have HGET:=lh (fun (j:Nat) (e:En) (hj:j<m.length) (he:m[j]? = some e)=>HRO.out.getB hj he)
     have HB1:=lh HB.out
     clear HER HRO HB hGl hk hlt
     go_wp2_with fail
     go_loopw [55] (fun s wr=>∃ i:Nat,i≤m.length∧s=.int .i64 i∧Hid (Below wo.heap.size wo wr)∧Hid (∀ j,j<i→ovlI m j j=false)) (fun s _=>m.length-(intOf s).toNat)
     case atStart=>exact ⟨0,Nat.zero_le _,rfl,lh (Below.refl _ _),lh (fun j hj=>by omega)⟩
     case round =>
      obtain ⟨i,hi,rfl,HQ0,HOV⟩:=hrel
      by_cases hlt:i<m.length
      ·obtain ⟨e,he⟩:∃ e,m[i]? = some e:=⟨_,gE hlt⟩
       obtain ⟨b,o,A,c,B,d,H,n,rfl,x0,x1,x2,x3,x4,heg,-⟩:=(HSV.out.below (go3 HB1.out HQ0.out)).en he
       obtain ⟨B3,d3,A3,c3,hrg,hcl⟩:=HGET.out _ _ hlt he
       have hic:i≤c0:=by omega
       have HEG:=lh heg
       have HE:=lh he
       have HRG:=lh hrg
       have HCL:=lh hcl
       clear he heg hrg hcl
       go_wp2_with fail
       obtain ⟨wi,rfl⟩:∃ wi,wi=wr:=⟨wr,rfl⟩
       clear x0 x1 x2 x3 x4
       go_loopw [64] (fun s wr=>∃ j:Nat,j≤i∧s=.int .i64 j∧Hid (Below wi.heap.size wi wr∧BX wr wi.heap.size (enV e A c B d H n))∧Hid (∀ q f,q<j→m[q]? = some f→badE e f=false)) (fun s _=>i-(intOf s).toNat)
       case atStart=>exact ⟨0,Nat.zero_le _,rfl,lh ⟨ba _ _,BX.new wi _ _ rfl⟩,lh (fun q f hq=>by omega)⟩
       case round =>
        obtain ⟨j,hj,rfl,HQ1,HNB⟩:=hrel
        by_cases hjl:j<i
        ·obtain ⟨f,hf⟩:∃ f,m[j]? = some f:=⟨_,gE (by omega)⟩
         obtain ⟨b',o',A',c',B',d',H',n',e',x0,x1,x2,x3,x4,hfg,-⟩:=(HSV.out.below (go3 HB1.out (go3 HQ0.out HQ1.out.1))).en hf
         cases e'
         obtain ⟨B4,d4,A4,c4,hrg,hcl⟩:=HGET.out _ _ (show j<m.length by omega) hf
         have HF:=lh hf
         have HRF:=lh hrg
         have HCF:=lh hcl
         have HFG:=lh hfg
         clear hf hfg hrg hcl
         have HQ:At (fun W=>Below wi.heap.size wi W∧BX W wi.heap.size (enV e A c B d H n)∧Below wr.heap.size wr W∧BX W wr.heap.size (enV f A' c' B' d' H' n')) (wr.alloc (.cells #[.slice A' f.1.1.length c',.bool f.1.2,.slice B' f.2.1.1.length d',.bool f.2.1.2,.slice H' f.2.2.length n'] 73)) :=
          ⟨fun X Y h hb=>⟨go3 h.1 hb,h.2.1.below hb,go3 h.2.2.1 hb,h.2.2.2.below hb⟩,go3 HQ1.out.1 (ba _ _),HQ1.out.2.below (ba _ _),ba _ _,BX.new wr _ _ rfl⟩
         have hjn:j<m.length:=by omega
         have HOKE:=lh (HOK.out e (mG HE.out))
         have HOKF:=lh (HOK.out f (mG HF.out))
         have HLE:=lh (fun W=>left_any A B H e.1.1.length c e.2.1.1.length d e.2.2.length n e.1.2 e.2.1.2 W)
         have HLF:=lh (fun W=>left_any A' B' H' f.1.1.length c' f.2.1.1.length d' f.2.2.length n' f.1.2 f.2.1.2 W)
         have HC1:Hid (∀ W,Below wr.heap.size wr W→Calls Tryz.prog 62 #[.agg #[.slice A e.1.1.length c,.bool e.1.2,.slice H e.2.2.length n],.agg #[.slice A' f.1.1.length c',.bool f.1.2,.slice H' f.2.2.length n']] W fun x w'=>x=.returned (.bool (cmnF (lfR e) (lfR f)))∧Below W.heap.size W w'):=lh (fun W h=>common_any (lfR e) (lfR f) A H A' H' c n c' n' W ⟨(HEG.out.below (go3 HQ1.out.1 h)).1,(HEG.out.below (go3 HQ1.out.1 h)).2.2⟩ ⟨(HFG.out.below h).1,(HFG.out.below h).2.2⟩ (lfR_ok HOKE.out.1) (lfR_ok HOKF.out.1) (lfR_sz HOKE.out.2) (lfR_sz HOKF.out.2))
         have HC2:Hid (∀ W,Below wr.heap.size wr W→Calls Tryz.prog 62 #[.agg #[.slice B3 e.2.1.1.length d3,.bool e.2.1.2,.slice A3 (nrsR e.1 e.2.1 e.2.2).length c3],.agg #[.slice B4 f.2.1.1.length d4,.bool f.2.1.2,.slice A4 (nrsR f.1 f.2.1 f.2.2).length c4]] W fun x w'=>x=.returned (.bool (cmnF (rtR e) (rtR f)))∧Below W.heap.size W w'):=lh (fun W h=>common_any (rtR e) (rtR f) B3 A3 B4 A4 d3 c3 d4 c4 W (HRG.out.below (go3 HQ0.out (go3 HQ1.out.1 h))) (HRF.out.below (go3 HQ0.out (go3 HQ1.out.1 h))) (rtR_ok HOKE.out.1) (rtR_ok HOKF.out.1) (rtR_sz HOKE.out.2) (rtR_sz HOKF.out.2))
         have HY:Hid (badE e f=true→chkM m=71):=lh (fun hb=>by
          unfold chkM
          rw [HNR.out,if_neg (by decide),if_pos]
          exact List.any_eq_true.2 ⟨i,List.mem_range.2 hlt,List.any_eq_true.2 ⟨j,List.mem_range.2 hjl,by rw [HE.out,HF.out];exact hb⟩⟩)
         have HN:Hid (badE e f=false→∀ q f,q<j+1→m[q]? = some f→badE e f=false):=lh (fun hb q g hq hg=>by
          rcases Nat.lt_or_ge q j with h1|h1
          ·exact HNB.out q g h1 hg
          ·obtain rfl:q=j:=by omega
           rw [HF.out] at hg
           cases hg
           exact hb)
         have HBE:Hid (badE e f=(cmnF (lfR e) (lfR f) || cmnF (rtR e) (rtR f))):=lh rfl
         rw [HBE.out] at HY HN
         clear HNB HOKE HOKF HBE
         have HKS:Hid (∀ W,(Below wi.heap.size wi W∧BX W wi.heap.size (enV e A c B d H n)∧Below wr.heap.size wr W∧BX W wr.heap.size (enV f A' c' B' d' H' n'))→(W.cell? ⟨wi.heap.size,0,none⟩=some (.slice A e.1.1.length c)∧W.cell? ⟨wi.heap.size,1,none⟩=some (.bool e.1.2)∧W.cell? ⟨wi.heap.size,2,none⟩=some (.slice B e.2.1.1.length d)∧W.cell? ⟨wi.heap.size,3,none⟩=some (.bool e.2.1.2)∧W.cell? ⟨wi.heap.size,4,none⟩=some (.slice H e.2.2.length n))∧(W.cell? ⟨wr.heap.size,0,none⟩=some (.slice A' f.1.1.length c')∧W.cell? ⟨wr.heap.size,1,none⟩=some (.bool f.1.2)∧W.cell? ⟨wr.heap.size,2,none⟩=some (.slice B' f.2.1.1.length d')∧W.cell? ⟨wr.heap.size,3,none⟩=some (.bool f.2.1.2)∧W.cell? ⟨wr.heap.size,4,none⟩=some (.slice H' f.2.2.length n'))∧(W.cell? ⟨wt.heap.size,i * 3,none⟩=some (.slice B3 e.2.1.1.length d3)∧W.cell? ⟨wt.heap.size,i * 3+1,none⟩=some (.bool e.2.1.2)∧W.cell? ⟨wt.heap.size,i * 3+2,none⟩=some (.slice A3 (nrsR e.1 e.2.1 e.2.2).length c3))∧(W.cell? ⟨wt.heap.size,j * 3,none⟩=some (.slice B4 f.2.1.1.length d4)∧W.cell? ⟨wt.heap.size,j * 3+1,none⟩=some (.bool f.2.1.2)∧W.cell? ⟨wt.heap.size,j * 3+2,none⟩=some (.slice A4 (nrsR f.1 f.2.1 f.2.2).length c4))):=lh (fun W h=>⟨h.2.1.c5,h.2.2.2.c5,HCL.out W (go3 HQ0.out h.1),HCF.out W (go3 HQ0.out h.1)⟩)
         go_upto_region 24 with (fail)
         clear x0 x1 x2 x3 x4
         cases hv1:cmnF (lfR e) (lfR f) with
         | true =>
          rw [hv1] at HC1 HY
          have HCE:=lh (HY.out rfl)
          clear HY HN HC2 hv1
          refine wp_region_held_drew (S:=fun W=>(W.cell? ⟨wi.heap.size,0,none⟩=some (.slice A e.1.1.length c)∧W.cell? ⟨wi.heap.size,1,none⟩=some (.bool e.1.2)∧W.cell? ⟨wi.heap.size,2,none⟩=some (.slice B e.2.1.1.length d)∧W.cell? ⟨wi.heap.size,3,none⟩=some (.bool e.2.1.2)∧W.cell? ⟨wi.heap.size,4,none⟩=some (.slice H e.2.2.length n))∧(W.cell? ⟨wr.heap.size,0,none⟩=some (.slice A' f.1.1.length c')∧W.cell? ⟨wr.heap.size,1,none⟩=some (.bool f.1.2)∧W.cell? ⟨wr.heap.size,2,none⟩=some (.slice B' f.2.1.1.length d')∧W.cell? ⟨wr.heap.size,3,none⟩=some (.bool f.2.1.2)∧W.cell? ⟨wr.heap.size,4,none⟩=some (.slice H' f.2.2.length n'))∧(W.cell? ⟨wt.heap.size,i * 3,none⟩=some (.slice B3 e.2.1.1.length d3)∧W.cell? ⟨wt.heap.size,i * 3+1,none⟩=some (.bool e.2.1.2)∧W.cell? ⟨wt.heap.size,i * 3+2,none⟩=some (.slice A3 (nrsR e.1 e.2.1 e.2.2).length c3))∧(W.cell? ⟨wt.heap.size,j * 3,none⟩=some (.slice B4 f.2.1.1.length d4)∧W.cell? ⟨wt.heap.size,j * 3+1,none⟩=some (.bool f.2.1.2)∧W.cell? ⟨wt.heap.size,j * 3+2,none⟩=some (.slice A4 (nrsR f.1 f.2.1 f.2.2).length c4))) (by kernel_rfl) ?hs0 (fun hHeld=>?_)
          case hs0=>exact HKS.out _ (HQ.go (by with_reducible apply Below.drew;with_reducible exact Below.refl _ _)).out
          refine tK 0 (v:=?_) 69 rfl rfl (Or.inl ⟨by rfl,?yy⟩) hHeld ?_
          case yy =>
           intro w' hSw
           try dsimp only at hSw
           go_simp<;>with_reducible rfl
          try simp only [Act.put,sL]
          refine tK 2 (v:=?_) 71 rfl rfl (Or.inl ⟨by rfl,?yy⟩) hHeld ?_
          case yy =>
           intro w' hSw
           try dsimp only at hSw
           go_simp<;>with_reducible rfl
          try simp only [Act.put,sL]
          refine wpAnyH_ready (rs:=[1]) (by kernel_rfl) (by simp) ?_
          refine AllReadyH.cons rfl (fun K hK=>?_) AllReadyH.nil
          go_simp
          (go_at_call 36;with_reducible refine (HLE.out _).mono ?_;rintro x w5 ⟨rfl,hb5⟩;replace HQ:=HQ.go2 bB hb5;clear hb5)
          clear hHeld
          refine hK.out _ _ ?hs1 (fun hHeld=>?_)
          case hs1=>exact HKS.out _ (HQ.go bB).out
          clear hK K
          try simp only [Act.put,sL]
          refine wpAnyH_ready (rs:=[3]) (by kernel_rfl) (by simp) ?_
          refine AllReadyH.cons rfl (fun K hK=>?_) AllReadyH.nil
          go_simp
          (go_at_call 36;with_reducible refine (HLF.out _).mono ?_;rintro x w6 ⟨rfl,hb6⟩;replace HQ:=HQ.go2 bB hb6;clear hb6)
          clear hHeld
          refine hK.out _ _ ?hs1 (fun hHeld=>?_)
          case hs1=>exact HKS.out _ (HQ.go bB).out
          clear hK K
          try simp only [Act.put,sL]
          refine wpAnyH_ready (rs:=[4]) (by kernel_rfl) (by simp) ?_
          refine AllReadyH.cons rfl (fun K hK=>?_) AllReadyH.nil
          go_simp
          (go_at_call 62;with_reducible refine (HC1.out _ (HQ.go bB).out.2.2.1).mono ?_;rintro x w7 ⟨rfl,hb7⟩;replace HQ:=HQ.go2 bB hb7;clear hb7)
          clear hHeld
          refine hK.out _ _ ?hs1 (fun hHeld=>?_)
          case hs1=>exact HKS.out _ (HQ.go bB).out
          clear hK K
          try simp only [Act.put,sL]
          refine tK 5 (v:=?_) 74 rfl rfl (Or.inl ⟨by rfl,?yy⟩) hHeld ?_
          case yy =>
           intro w' hSw
           try dsimp only at hSw
           go_simp<;>with_reducible rfl
          try simp only [Act.put,sL]
          refine tK 6 (v:=undef) 75 rfl rfl (Or.inr ⟨by rfl,rfl⟩) hHeld ?_
          try simp only [Act.put,sL]
          refine tK 7 (v:=undef) 76 rfl rfl (Or.inr ⟨by rfl,rfl⟩) hHeld ?_
          try simp only [Act.put,sL]
          refine tK 8 (v:=undef) 77 rfl rfl (Or.inr ⟨by rfl,rfl⟩) hHeld ?_
          try simp only [Act.put,sL]
          refine tK 9 (v:=undef) 78 rfl rfl (Or.inr ⟨by rfl,rfl⟩) hHeld ?_
          try simp only [Act.put,sL]
          refine tK 10 (v:=undef) 79 rfl rfl (Or.inr ⟨by rfl,rfl⟩) hHeld ?_
          try simp only [Act.put,sL]
          refine tK 11 (v:=undef) 80 rfl rfl (Or.inr ⟨by rfl,rfl⟩) hHeld ?_
          try simp only [Act.put,sL]
          refine tK 12 (v:=undef) 81 rfl rfl (Or.inr ⟨by rfl,rfl⟩) hHeld ?_
          try simp only [Act.put,sL]
          refine tK 13 (v:=undef) 82 rfl rfl (Or.inr ⟨by rfl,rfl⟩) hHeld ?_
          try simp only [Act.put,sL]
          refine tK 14 (v:=undef) 83 rfl rfl (Or.inr ⟨by rfl,rfl⟩) hHeld ?_
          try simp only [Act.put,sL]
          refine tK 15 (v:=?_) 84 rfl rfl (Or.inl ⟨by rfl,?yy⟩) hHeld ?_
          case yy =>
           intro w' hSw
           try dsimp only at hSw
           go_simp<;>with_reducible rfl
          try simp only [Act.put,sL]
          refine wpAnyH_done (by kernel_rfl) ?_ _
          all_goals
           go_wp2_with fail
           go_ret2
           exact ⟨i,by rw [HCE.out];rfl,go3 HB1.out (go3 HQ0.out (HQ.go bB).out.1)⟩
         | false =>
          rw [hv1] at HC1 HY HN
          clear hv1
          cases hv2:cmnF (rtR e) (rtR f) with
          | true =>
           rw [hv2] at HC2 HY
           have HCE:=lh (HY.out rfl)
           clear HY HN hv2
           go_region_held3 (fun W=>(W.cell? ⟨wi.heap.size,0,none⟩=some (.slice A e.1.1.length c)∧W.cell? ⟨wi.heap.size,1,none⟩=some (.bool e.1.2)∧W.cell? ⟨wi.heap.size,2,none⟩=some (.slice B e.2.1.1.length d)∧W.cell? ⟨wi.heap.size,3,none⟩=some (.bool e.2.1.2)∧W.cell? ⟨wi.heap.size,4,none⟩=some (.slice H e.2.2.length n))∧(W.cell? ⟨wr.heap.size,0,none⟩=some (.slice A' f.1.1.length c')∧W.cell? ⟨wr.heap.size,1,none⟩=some (.bool f.1.2)∧W.cell? ⟨wr.heap.size,2,none⟩=some (.slice B' f.2.1.1.length d')∧W.cell? ⟨wr.heap.size,3,none⟩=some (.bool f.2.1.2)∧W.cell? ⟨wr.heap.size,4,none⟩=some (.slice H' f.2.2.length n'))∧(W.cell? ⟨wt.heap.size,i * 3,none⟩=some (.slice B3 e.2.1.1.length d3)∧W.cell? ⟨wt.heap.size,i * 3+1,none⟩=some (.bool e.2.1.2)∧W.cell? ⟨wt.heap.size,i * 3+2,none⟩=some (.slice A3 (nrsR e.1 e.2.1 e.2.2).length c3))∧(W.cell? ⟨wt.heap.size,j * 3,none⟩=some (.slice B4 f.2.1.1.length d4)∧W.cell? ⟨wt.heap.size,j * 3+1,none⟩=some (.bool f.2.1.2)∧W.cell? ⟨wt.heap.size,j * 3+2,none⟩=some (.slice A4 (nrsR f.1 f.2.1 f.2.2).length c4)))
            (first|(with_reducible refine HKS.out _ (HQ.go ?_).out<;>(repeat (first|with_reducible exact Below.refl _ _|with_reducible apply Below.drew|with_reducible apply below_drewN|with_reducible apply below_al))<;>done)|go_keep)
            (first
             | (go_at_call 36;(first|with_reducible refine (HLE.out _).mono ?_|with_reducible refine (HLF.out _).mono ?_);rintro x w5 ⟨rfl,hb5⟩;replace HQ:=HQ.go2 bB hb5;clear hb5)
             | (go_at_call 62;(first|with_reducible refine (HC1.out _ (HQ.go bB).out.2.2.1).mono ?_|with_reducible refine (HC2.out _ (HQ.go bB).out.2.2.1).mono ?_);rintro x w5 ⟨rfl,hb5⟩;replace HQ:=HQ.go2 bB hb5;clear hb5))
           all_goals
            go_wp2_with fail
            go_ret2
            exact ⟨i,by rw [HCE.out];rfl,go3 HB1.out (go3 HQ0.out (HQ.go bB).out.1)⟩
          | false =>
           rw [hv2] at HC2 HN
           have HN2:=lh (HN.out rfl)
           clear HY HN hv2
           go_region_held3 (fun W=>(W.cell? ⟨wi.heap.size,0,none⟩=some (.slice A e.1.1.length c)∧W.cell? ⟨wi.heap.size,1,none⟩=some (.bool e.1.2)∧W.cell? ⟨wi.heap.size,2,none⟩=some (.slice B e.2.1.1.length d)∧W.cell? ⟨wi.heap.size,3,none⟩=some (.bool e.2.1.2)∧W.cell? ⟨wi.heap.size,4,none⟩=some (.slice H e.2.2.length n))∧(W.cell? ⟨wr.heap.size,0,none⟩=some (.slice A' f.1.1.length c')∧W.cell? ⟨wr.heap.size,1,none⟩=some (.bool f.1.2)∧W.cell? ⟨wr.heap.size,2,none⟩=some (.slice B' f.2.1.1.length d')∧W.cell? ⟨wr.heap.size,3,none⟩=some (.bool f.2.1.2)∧W.cell? ⟨wr.heap.size,4,none⟩=some (.slice H' f.2.2.length n'))∧(W.cell? ⟨wt.heap.size,i * 3,none⟩=some (.slice B3 e.2.1.1.length d3)∧W.cell? ⟨wt.heap.size,i * 3+1,none⟩=some (.bool e.2.1.2)∧W.cell? ⟨wt.heap.size,i * 3+2,none⟩=some (.slice A3 (nrsR e.1 e.2.1 e.2.2).length c3))∧(W.cell? ⟨wt.heap.size,j * 3,none⟩=some (.slice B4 f.2.1.1.length d4)∧W.cell? ⟨wt.heap.size,j * 3+1,none⟩=some (.bool f.2.1.2)∧W.cell? ⟨wt.heap.size,j * 3+2,none⟩=some (.slice A4 (nrsR f.1 f.2.1 f.2.2).length c4)))
            (first|(with_reducible refine HKS.out _ (HQ.go ?_).out<;>(repeat (first|with_reducible exact Below.refl _ _|with_reducible apply Below.drew|with_reducible apply below_drewN|with_reducible apply below_al))<;>done)|go_keep)
            (first
             | (go_at_call 36;(first|with_reducible refine (HLE.out _).mono ?_|with_reducible refine (HLF.out _).mono ?_);rintro x w5 ⟨rfl,hb5⟩;replace HQ:=HQ.go2 bB hb5;clear hb5)
             | (go_at_call 62;(first|with_reducible refine (HC1.out _ (HQ.go bB).out.2.2.1).mono ?_|with_reducible refine (HC2.out _ (HQ.go bB).out.2.2.1).mono ?_);rintro x w5 ⟨rfl,hb5⟩;replace HQ:=HQ.go2 bB hb5;clear hb5))
           all_goals
            go_wp2_with fail
            go_roundw
            case rel=>exact ⟨j+1,by omega,by go_num,lh ⟨(HQ.go bB).out.1,(HQ.go bB).out.2.1⟩,HN2⟩
            case measure=>simp [intOf];omega
        ·obtain rfl:j=i:=by omega
         have HOV2:Hid (∀ q,q<j+1→ovlI m q q=false):=lh (fun q hq=>by
          rcases Nat.lt_or_ge q j with h1|h1
          ·exact HOV.out q h1
          ·obtain rfl:q=j:=by omega
           unfold ovlI
           rw [List.any_eq_false]
           intro u hu
           have hu2:=List.mem_range.1 hu
           obtain ⟨f,hf⟩:∃ f,m[u]? = some f:=⟨_,gE (by omega)⟩
           rw [HE.out,hf]
           simp only
           rw [HNB.out u f hu2 hf]
           decide)
         go_wp2_with fail
         go_roundw
         case rel=>exact ⟨j+1,by omega,by go_num,lh (go3 HQ0.out HQ1.out.1),HOV2⟩
         case measure=>simp [intOf];omega
      ·obtain rfl:i=m.length:=by omega
       have HCE:Hid (chkM m=0):=lh (by
        unfold chkM
        rw [HNR.out,if_neg (by decide),if_neg]
        unfold ovl
        rw [Bool.not_eq_true,List.any_eq_false]
        intro j hj
        rw [HOV.out j (List.mem_range.1 hj)]
        decide)
       go_wp2_with fail
       go_ret2
       exact ⟨0,by rw [HCE.out];rfl,go3 HB1.out HQ0.out⟩
end Go.Proofs.YtelkmeiepliecaaGreatDoor

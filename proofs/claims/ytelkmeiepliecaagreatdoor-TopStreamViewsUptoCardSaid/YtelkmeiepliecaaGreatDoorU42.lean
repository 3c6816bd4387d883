/-
  Part 42 of the proof.
-/
import Derived.Test.YtelkmeiepliecaaGreatDoorU41
set_option linter.unusedSimpArgs false
set_option linter.unusedVariables false
set_option maxHeartbeats 16000000
namespace Go.Proofs.YtelkmeiepliecaaGreatDoor
open Pm
open Go.RowKit Go.WideShapes
theorem rt_lit {w:World} {g:Nat} {x:ByteArray} (h:BX w g [.string x]):RT w (some ⟨g,0,none⟩) 1 [x] :=
 ⟨Nat.le_refl _,by omega,fun _=>⟨g,0,rfl,h.2.2,fun j y hy=>by
  cases j with
  | zero=>cases hy;exact h.1 0 _ rfl
  | succ j=>simp at hy⟩⟩
def pc0V (p0:Nat):List Value:=[.slice (some ⟨p0,0,none⟩) 1 1,.bool true,.slice none 0 0,.int .i64 1,.bool false,.slice none 0 0,.bool false,.slice none 0 0,.bool false]
theorem sv_pc0 {w:World} {p0 r0:Nat} (h:BX w p0 [.string viewN]) (k:BX w r0 (pc0V p0)):SV elPc w kN (some ⟨r0,0,none⟩) 1 [pc0] :=
 ⟨[pc0V p0],RR.of_bx k (fun r hr=>by rw [List.mem_singleton.1 hr];rfl) (Nat.le_refl _) (by omega),Rel.single ⟨some ⟨p0,0,none⟩,1,none,0,none,0,none,0,rfl,⟨⟨rt_lit h,BT.nil _⟩,RT.nil _ _ _ (by omega),RT.nil _ _ _ (by omega)⟩,fun h=>absurd h (by decide)⟩,fun _ _ _ h=>h⟩
def PzOk (q:Pc):Prop:=okRg q.1∧szR 5000 q.1∧(q.2.1=3→okPn q.2.2.1)∧szN 5000 q.2.2.1∧szN 5000 q.2.2.2
theorem VzOk.pz {q:Pc} (h:VzOk q):PzOk q:=⟨h.2.1,h.2.2.1,fun _=>(rl_ok h.1).1,h.2.2.2.1,h.2.2.2.2.1⟩
theorem pz0:PzOk pc0:=by
 refine ⟨⟨?_,?_,?_⟩,⟨?_,?_⟩,?_,?_,?_⟩
 ·show checkP _ _=0
  decide +kernel
 ·intro h hh;cases hh
 ·exact Nat.zero_le _
 ·intro x hx
  rw [List.mem_singleton.1 hx]
  decide +kernel
 ·intro h hh;cases hh
 ·intro h
  exact absurd h (by decide)
 ·intro x hx;cases hx
 ·intro x hx;cases hx
theorem stepQ_len {name:ByteArray} {p:Ln} {own:Rg}:∀ (ab:List Pc) (r rs:List Pc),r.length≤32→ab.foldl (stepQ name p own) (some r)=some rs→rs.length≤32
 | [],r,rs,h,e=>by cases e;exact h
 | q::ab,r,rs,h,e=>by
  rw [List.foldl_cons] at e
  cases hs:stepQ name p own (some r) q with
  | none=>rw [hs,stepQ_none] at e;cases e
  | some r2 =>
   rw [hs] at e
   refine stepQ_len ab r2 rs ?_ e
   unfold stepQ at hs
   dsimp only at hs
   split at hs
   ·cases hs
   ·split at hs
    ·cases hs;exact h
    ·split at hs
     ·cases hs
     ·rename_i hne
      cases hs
      have h32:¬ r.length=32:=fun he=>hne (.inr he)
      rw [List.length_append]
      simp only [List.length_cons,List.length_nil]
      omega
theorem rowQ_len {name:ByteArray} {ps:List Ln} {ab:List Pc}:∀ {k:Nat} {rq:List Pc},rowQ name ps ab k=some rq→rq.length≤32
 | 0,rq,e=>by cases e;exact Nat.zero_le _
 | k+1,rq,e=>by
  unfold rowQ at e
  cases hp:ps[k]? with
  | none=>rw [hp] at e;exact rowQ_len e
  | some p =>
   rw [hp] at e
   dsimp only at e
   cases hr:rowQ name ps ab k with
   | none=>rw [hr,lineQ_none] at e;cases e
   | some r =>
    rw [hr] at e
    unfold lineQ at e
    split at e
    ·cases e;exact rowQ_len hr
    ·exact stepQ_len ab r rq (rowQ_len hr) e
theorem pcsF_len {l:List St} {n i:Nat} {ps:List Pc} (h:pcsF l n i=some ps):ps.length≤32:=by
 cases n with
 | zero=>cases h
 | succ n =>
  unfold pcsF at h
  split at h
  ·cases h
  ·split at h
   ·cases h
   ·exact rowQ_len h
theorem SV.drop {α:Type} {e:El α} {w:World} {K:Nat→Prop} {b o c k:Nat} {xs:List α} (h:SV e w K (some ⟨b,o,none⟩) c xs) (hk:k≤xs.length):SV e w K (some ⟨b,o+k * e.size,none⟩) (c-k) (xs.drop k):=by
 have h1:=h.lenc
 have h2:=h.capc
 refine SV.of (by rw [List.length_drop];omega) (by omega) (fun h0=>?_) (fun h0 a ea=>?_)
 ·rw [List.length_drop] at h0
  obtain ⟨b',o',r0,ea,hlt,_⟩:=h.at_ (gE (show 0<xs.length by omega))
  cases ea
  refine ⟨b,o+k * e.size,rfl,hlt,fun j x hj=>?_⟩
  rw [List.getElem?_drop] at hj
  obtain ⟨b',o',r,ea,_,hc,hr⟩:=h.at_ hj
  cases ea
  refine ⟨r,hr,fun i u hu=>?_⟩
  have:=hc i u hu
  rw [Nat.add_mul,← Nat.add_assoc] at this
  exact this
 ·cases ea
  obtain ⟨rows,_,_,h3⟩:=h
  rw [List.length_drop] at h0
  exact h3 (by omega) ⟨b,o,none⟩ rfl
def kM (a b c:Nat):Nat→Prop:=fun j=>(a≤j∧j<b)∨c≤j
theorem kM_not {a b c j:Nat} (h:j<a∨b≤j) (hc:j<c):¬ kM a b c j:=fun k=>by
 unfold kM at k
 omega
theorem later_len (ps:List Ln) (k:Nat):(laterL ps k).length=ps.length-(k+1):=by
 unfold laterL
 rw [List.length_map,List.length_drop]
theorem later_take {ps:List Ln} {k j:Nat} {p:Ln} (h:(ps.drop (k+1))[j]? = some p):(laterL ps k).take (j+1)=(laterL ps k).take j++[p.2.1]:=by
 unfold laterL
 rw [List.take_add_one,List.getElem?_map,h]
 rfl
theorem fold_snoc {name:ByteArray} {p:Ln} {own:Rg} {ab:List Pc} {r:Option (List Pc)} {t:Nat} {q:Pc} (h:ab[t]? = some q):(ab.take (t+1)).foldl (stepQ name p own) r=stepQ name p own ((ab.take t).foldl (stepQ name p own) r) q:=by
 rw [List.take_add_one,h,List.foldl_append]
 rfl
theorem fold_dead {name:ByteArray} {p:Ln} {own:Rg} {ab:List Pc} {r:Option (List Pc)} {t:Nat} (h:(ab.take t).foldl (stepQ name p own) r=none):ab.foldl (stepQ name p own) r=none:=by
 have e:ab=ab.take t++ab.drop t:=(List.take_append_drop t ab).symm
 rw [e,List.foldl_append,h]
 exact stepQ_none _ _ _ _
theorem stepQ_e {name:ByteArray} {p:Ln} {own:Rg} {rt:List Pc} {q:Pc} (h:rmE own q.1=true):stepQ name p own (some rt) q=none:=if_pos h
theorem stepQ_s {name:ByteArray} {p:Ln} {own:Rg} {rt:List Pc} {q:Pc} (h:rmE own q.1=false) (ho:rmO own q.1=false):stepQ name p own (some rt) q=some rt:=by
 unfold stepQ
 dsimp only
 rw [if_neg (by rw [h];decide),if_pos ho]
theorem rm_oe {own g:Rg} (ho:rmO own g=true):rmE own g=false:=by
 unfold rmO at ho
 simp only [Bool.and_eq_true,decide_eq_true_eq] at ho
 unfold rmE
 rw [ho.1,Bool.true_and,decide_eq_false_iff_not]
 omega
theorem stepQ_n {name:ByteArray} {p:Ln} {own:Rg} {rt:List Pc} {q:Pc} (ho:rmO own q.1=true) (hn:nwE name p q (rmB own q.1)≠0∨rt.length=32):stepQ name p own (some rt) q=none:=by
 unfold stepQ
 dsimp only
 rw [if_neg (by rw [rm_oe ho];decide),if_neg (by rw [ho];decide),if_pos hn]
theorem stepQ_y {name:ByteArray} {p:Ln} {own:Rg} {rt:List Pc} {q:Pc} (ho:rmO own q.1=true) (hn:nwE name p q (rmB own q.1)=0) (h32:rt.length≠32):stepQ name p own (some rt) q=some (rt++[nwP name p q (rmB own q.1)]):=by
 unfold stepQ
 dsimp only
 rw [if_neg (by rw [rm_oe ho];decide),if_neg (by rw [ho];decide),if_neg (by rintro (h|h);exact h hn;exact h32 h)]
theorem wide_ok {name:ByteArray} {p:Ln} {q:Pc} {G:Rg} (hn:name.size≤100) (hl:lineOk p=true) (hz:szN 40 p.2.1∧szN 40 p.2.2) (hG:szN 40 G.1) (hq:PzOk q) (ho:rmO G q.1=true) :
 okPn (rmB G q.1).1∧okPn (wideP name p q (rmB G q.1)).1∧szN 5000 (rmB G q.1).1∧szN 5000 (wideP name p q (rmB G q.1)).1∧szN 5000 (wideP name p q (rmB G q.1)).2:=by
 have hm:metO G.1 q.1.1=true:=by
  unfold rmO at ho
  exact (Bool.and_eq_true _ _▸ho).1
 have k1:okPn (rmB G q.1).1:=met_ok hm
 have k2:szN 5000 (rmB G q.1).1:=met_sz hm (szN_up hG (by omega)) hq.2.1.1
 refine ⟨k1,?_,k2,?_,?_⟩
 ·unfold wideP
  split
  ·rename_i h3;exact hq.2.2.1 h3
  ·split
   ·exact (lineOk.parts hl).1
   ·exact k1
 ·unfold wideP
  split
  ·exact hq.2.2.2.1
  ·split
   ·exact szN_up hz.1 (by omega)
   ·exact k2
 ·unfold wideP
  split
  ·exact hq.2.2.2.2
  ·split
   ·exact szN_up hz.2 (by omega)
   ·intro x hx
    unfold stoP at hx
    rcases List.mem_or_eq_of_mem_set hx with hx|e
    ·exact k2 x hx
    ·rw [e]
     omega
def abvP (l:List St) (n i:Nat):Option (List Pc):=match parS l i with|some p=>pcsF l n p|none=>some [pc0]
set_option maxRecDepth 100000 in
theorem pieces_step (g m:Nat) (A:Option Addr) (c0:Nat) (l:List St) (hl:l.length≤100) (hz:SzS l) (hln:∀ s∈l,∀ p∈s.2.2,lineOk p=true) (n:Nat) (hP:∀ i ps,pcsF l n i=some ps→∀ q∈ps,VzOk q)
 (IH:∀ (i:Nat) (w:World),FO w g m A c0 l→i<l.length→okF l n i→ML w→Calls Tryz.prog 52 #[.pointer (some ⟨g,0,none⟩),.int .i64 i] w (RetPc w (pcsF l n i))) (i:Nat) (w:World) (h:FO w g m A c0 l) (hi:i<l.length) (ho:okF l (n+1) i) (hm:ML w) :
 Calls Tryz.prog 52 #[.pointer (some ⟨g,0,none⟩),.int .i64 i] w (RetPc w (pcsF l (n+1) i)):=by
 obtain ⟨s,hs⟩:∃ s,l[i]? = some s:=⟨_,gE hi⟩
 obtain ⟨b,o,P,np,rfl,hbw,x0,x1,x2,hsv⟩:=h.2.1.at_ hs
 obtain ⟨y0,y1⟩:=h.1.c2
 have hgw:=h.1.2.2
 have hp15:=(hz s (mG hs)).2.1
 have q3:=hsv.lenc
 have q4:=hsv.capc
 have HSL:=lh hsv
 have HLO:=lh (hln s (mG hs))
 have HZL:=lh (hz s (mG hs)).2.2
 have hnm100:s.1.size≤100:=(hz s (mG hs)).1.1
 have HM:=lh hm
 have HPR:=lh (fun W (hW:Below w.heap.size w W)=>parent_any g m _ c0 l i W (h.below hW) hi hl hz.nm)
 have HPC:Hid (pcsF l (n+1) i=match abvP l n i with|none=>none|some ab=>rowQ s.1 s.2.2 ab s.2.2.length):=lh (by
  show (match l[i]? with|none=>_|some s=>_)=_
  rw [hs]
  rfl)
 have HQ0:At (fun W=>BX W w.heap.size [.string viewN]∧BX W (w.heap.size+1+1) (pc0V w.heap.size)∧Below w.heap.size w W) (((w.alloc (.cells #[.string viewN] 9)).alloc (.cells #[.slice (some ⟨w.heap.size,0,none⟩) 1 1,.bool true] 45)).alloc (.cells (pc0V w.heap.size).toArray 71)) :=
  ⟨fun X Y h hb=>⟨h.1.below hb,h.2.1.below hb,go3 h.2.2 hb⟩,(BX.new w [_] _ rfl).below bB,BX.new _ _ _ (by simp),bB⟩
 simp only [pc0V,viewN] at HQ0
 have HFO:=lh (fun W (hW:Below w.heap.size w W)=>h.below hW)
 have HIH:Hid (∀ pp W,parS l i=some pp→Below w.heap.size w W→Calls Tryz.prog 52 #[.pointer (some ⟨g,0,none⟩),.int .i64 (pp:Int)] W (RetPc W (pcsF l n pp))):=lh (fun pp W hp hW=>IH pp W (h.below hW) (parS_lt hp) (by
  unfold okF at ho
  rw [hp] at ho
  exact ho) (hm.below hW))
 have HPV:Hid (∀ pp ps,pcsF l n pp=some ps→∀ q∈ps,PzOk q):=lh (fun pp ps h9 q hq=>(hP pp ps h9 q hq).pz)
 clear ho IH h hm hz hs hsv hln hP
 go_enter Tryz.func52,Tryz.ntmps52
 go_upto_if 37 with (go_at_call 51;refine (HPR.out _ bB).mono ?_;rintro e w1 ⟨rfl,hb1⟩;replace HQ0:=HQ0.go2 bB hb1;clear hb1)
 obtain ⟨vb,HVB⟩:∃ vb,Hid ((parS l i).isSome=vb):=⟨_,lh rfl⟩
 obtain ⟨vi,HVI⟩:∃ vi,Hid (oI (parS l i)=vi):=⟨_,lh rfl⟩
 rw [HVB.out,HVI.out]
 go_cut [7] (fun s7 wx=>∃ (ab:List Pc) (A7:Option Addr) (c7:Nat),s7=.slice A7 ab.length c7∧Hid (abvP l n i=some ab)∧Hid (SV elPc wx kN A7 c7 ab)∧Hid ((∀ q∈ab,PzOk q)∧ab.length≤32)∧Hid (Below w.heap.size w wx))
 case first =>
  cases vb with
  | false =>
   have hp:parS l i=none:=by
    cases h9:parS l i with
    | none=>rfl
    | some x=>have:=HVB.out;rw [h9] at this;cases this
   have HAB:Hid (abvP l n i=some [pc0]):=lh (by unfold abvP;rw [hp])
   go_wp2_with fail
   go_meet
   exact ⟨[pc0],_,_,rfl,HAB,lh (sv_pc0 HQ0.out.1 HQ0.out.2.1),lh ⟨fun q hq=>by rw [List.mem_singleton.1 hq];exact pz0,by decide⟩,lh HQ0.out.2.2⟩
  | true =>
   obtain ⟨pp,hp⟩:∃ pp,parS l i=some pp:=by
    cases h9:parS l i with
    | none=>have:=HVB.out;rw [h9] at this;cases this
    | some x=>exact ⟨x,rfl⟩
   obtain rfl:vi=(pp:Int):=by rw [←HVI.out,hp];rfl
   clear HVI HVB
   have HIP:=lh (fun W hW=>HIH.out pp W hp hW)
   have HAB0:Hid (abvP l n i=pcsF l n pp):=lh (by unfold abvP;rw [hp])
   clear HIH hp
   cases hpp:pcsF l n pp with
   | none =>
    have HNO:Hid (pcsF l (n+1) i=none):=lh (by rw [HPC.out,HAB0.out,hpp])
    have HIP2:=lh (fun W hW=>(HIP.out W hW).mono fun _ _ k=>k.2 hpp)
    go_wp2_with (go_at_call 52;refine (HIP2.out _ HQ0.out.2.2).mono ?_;rintro e w2 ⟨rfl,hb2⟩;replace HQ0:=HQ0.go2 bB hb2;clear hb2)
    go_ret2
    exact ⟨fun ps h=>(by rw [HNO.out] at h;cases h),fun _=>⟨rfl,HQ0.out.2.2⟩⟩
   | some ab =>
    have HIP2:=lh (fun W hW=>(HIP.out W hW).mono fun _ _ k=>k.1 ab hpp)
    have HAB:Hid (abvP l n i=some ab):=lh (HAB0.out.trans hpp)
    have HPZ:Hid ((∀ q∈ab,PzOk q)∧ab.length≤32):=lh ⟨HPV.out pp ab hpp,pcsF_len hpp⟩
    go_wp2_with (go_at_call 52;refine (HIP2.out _ HQ0.out.2.2).mono ?_;rintro e w2 ⟨A7,c7,rfl,hsv,hb2⟩;replace HQ0:=HQ0.go2 bB hb2;have HSV2:=lh hsv;clear hb2 hsv)
    go_meet
    exact ⟨ab,A7,c7,rfl,HAB,HSV2,HPZ,lh HQ0.out.2.2⟩
 case rest =>
  obtain ⟨ab,A7,c7,rfl,HAB,HSA,HPZ,HF⟩:=hcut
  clear HQ0 HIH HPV HPR
  obtain ⟨W1,rfl⟩:∃ W1,W1=wc:=⟨wc,rfl⟩
  have x0':=(HF.out.cell (p:=⟨b,o+i * 3,none⟩) hbw).trans x0
  have x1':=(HF.out.cell (p:=⟨b,o+i * 3+1,none⟩) hbw).trans x1
  have x2':=(HF.out.cell (p:=⟨b,o+i * 3+2,none⟩) hbw).trans x2
  have y0':=(HF.out.cell (p:=⟨g,0,none⟩) hgw).trans y0
  have hbw':b<W1.heap.size:=Nat.lt_of_lt_of_le hbw HF.out.size
  have hgw':g<W1.heap.size:=Nat.lt_of_lt_of_le hgw HF.out.size
  go_upto_region 9 with (fail)
  go_cut [11] (fun s11 wx=>s11=.pointer (some ⟨W1.heap.size,0,none⟩)∧Hid (BX wx W1.heap.size [.string s.1,.string s.2.1,.slice P s.2.2.length np]∧Below W1.heap.size W1 wx))
  case first =>
   go_wp2_with fail
   go_meet
   exact ⟨rfl,lh ⟨BX.new W1 _ _ rfl,ba _ _⟩⟩
  case rest =>
   obtain ⟨rfl,HC⟩:=hcut
   have HSA2:=lh (HSA.out.below HC.out.2)
   clear x0' x1' x2' y0' hbw' hgw' x0 x1 x2 y0 y1
   obtain ⟨x0,x1,x2⟩:=HC.out.1.c3
   obtain ⟨W2,rfl⟩:∃ W2,W2=wc:=⟨wc,rfl⟩
   have HW:=lh (go3 HF.out HC.out.2)
   have a1:=HSA2.out.lenc
   have a2:=HSA2.out.capc
   have hg11:W1.heap.size<W2.heap.size:=HC.out.1.2.2
   generalize W1.heap.size=g11 at *
   clear HF HSA
   go_wp2_with fail
   clear x0 x1 x2
   go_loopw [12,57] (fun s12 s57 wr=>∃ (k:Nat) (rq:List Pc) (A12:Option Addr) (c12:Nat),k≤s.2.2.length∧s57=.int .i64 k∧s12=.slice A12 rq.length c12∧Hid (rowQ s.1 s.2.2 ab k=some rq)∧Hid (Below W2.heap.size W2 wr)∧Hid (SO elPc wr W2.heap.size 71 (.slice A12 rq.length c12) kN rq)) (fun _ s57 _=>s.2.2.length-(intOf s57).toNat)
   case atStart=>exact ⟨0,[],none,0,Nat.zero_le _,rfl,rfl,lh rfl,lh (Below.refl _ _),lh (SO.nil _ _ _ _ _)⟩
   case round =>
    obtain ⟨k,rq,A12,c12,hk,rfl,rfl,HRQ,HB,HSO⟩:=hrel
    have h32:=rowQ_len HRQ.out
    obtain ⟨wt,rfl⟩:∃ wt,wt=wr:=⟨wr,rfl⟩
    by_cases hlt:k<s.2.2.length
    ·obtain ⟨p,hpk⟩:∃ p,s.2.2[k]? = some p:=⟨_,gE hlt⟩
     obtain ⟨b1,o1,B1,d1,A1,c1,rfl,hb1,x0,x1,x2,x3,x4,k1,k2⟩:=(HSL.out.below (go3 HW.out HB.out)).ln hpk
     have HLK:=lh (HLO.out p (mG hpk))
     have HZK:=lh (HZL.out p (mG hpk))
     have HRS:=lh (rowQ_succ (name:=s.1) (ab:=ab) hpk)
     have HQ:At (fun W=>(BX W wt.heap.size [.int .i64 p.1,.slice B1 p.2.1.1.length d1,.bool p.2.1.2,.slice A1 p.2.2.1.length c1,.bool p.2.2.2]∧BX W g11 [.string s.1,.string s.2.1,.slice (some ⟨b1,o1,none⟩) s.2.2.length np])∧(RT W B1 d1 p.2.1.1∧RT W A1 c1 p.2.2.1)∧Below wt.heap.size wt W) (wt.alloc (.cells #[.int .i64 p.1,.slice B1 p.2.1.1.length d1,.bool p.2.1.2,.slice A1 p.2.2.1.length c1,.bool p.2.2.2] 51)) :=
      ⟨fun X Y h hb=>⟨⟨h.1.1.below hb,h.1.2.below hb⟩,⟨h.2.1.1.below hb,h.2.1.2.below hb⟩,go3 h.2.2 hb⟩,⟨BX.new wt _ _ rfl,HC.out.1.below (go3 HB.out (ba _ _))⟩,⟨k1.below (ba _ _),k2.below (ba _ _)⟩,ba _ _⟩
     clear hpk k1 k2
     by_cases h4:p.1=4
     ·have b4:(p.1==4)=true:=by simpa using h4
      have HR2:Hid (rowQ s.1 s.2.2 ab (k+1)=some rq):=lh (by rw [HRS.out,HRQ.out];unfold lineQ;rw [if_pos h4])
      clear h4
      go_wp2_with fail
      go_roundw
      case rel=>exact ⟨k+1,rq,A12,c12,by omega,by go_num,rfl,HR2,lh (go3 HB.out HQ.out.2.2),lh (HSO.out.below HQ.out.2.2)⟩
      case measure=>simp [intOf];omega
     ·have b4:(p.1==4)=false:=by simpa using h4
      have HLR:Hid (rowQ s.1 s.2.2 ab (k+1)=ab.foldl (stepQ s.1 p (ownR s.2.2 k p)) (some rq)):=lh (by rw [HRS.out,HRQ.out];unfold lineQ;rw [if_neg h4])
      clear h4
      obtain ⟨w0,w1',w2'⟩:=(HC.out.1.below HB.out).c3
      have hg11':=(HC.out.1.below HB.out).2.2
      obtain ⟨k1,hk1⟩:∃ k1,k1=k+1:=⟨_,rfl⟩
      have hw1:IntKind.i64.wrap ((k:Int)+1)=(k1:Int):=by rw [hk1];exact (IntWalk.i64_in _ (by omega))
      have hk2:(k1:Int)≤(s.2.2.length:Int):=by omega
      have hk3:(0:Int)≤(k1:Int):=by omega
      have hk4:k1≤s.2.2.length:=by omega
      go_upto_region 16 with (fail)
      go_cut [69,70,71] (fun s69 s70 s71 wx=>∃ (Ar:Option Addr) (n2 m2:Nat),s69=.slice Ar n2 m2∧s70=.int .i64 (n2:Int)∧s71=.int .i64 0∧Hid (n2=s.2.2.length-k1)∧Hid (SV elL wx kN Ar m2 (s.2.2.drop k1))∧Hid ((BX wx wt.heap.size [.int .i64 p.1,.slice B1 p.2.1.1.length d1,.bool p.2.1.2,.slice A1 p.2.2.1.length c1,.bool p.2.2.2]∧BX wx g11 [.string s.1,.string s.2.1,.slice (some ⟨b1,o1,none⟩) s.2.2.length np])∧(RT wx B1 d1 p.2.1.1∧RT wx A1 c1 p.2.2.1)∧Below wt.heap.size wt wx))
      case first =>
       have HSV4:=lh ((HSL.out.below (go3 HW.out HB.out)).below HQ.out.2.2)
       by_cases hnp:np=k1
       ·go_wp2_with fail
        go_meet
        subst hk1
        exact ⟨_,_,_,rfl,rfl,rfl,lh rfl,lh (by rw [List.drop_eq_nil_of_le (by omega)];exact SV.nil _ _ _ _ _ (by omega)),lh HQ.out⟩
       ·have hnp2:(np=k1)=False:=by simpa using hnp
        go_wp2_with fail
        go_meet
        subst hk1
        exact ⟨_,_,_,rfl,rfl,rfl,lh rfl,lh (HSV4.out.drop (k:=k+1) hk4),lh HQ.out⟩
      case rest =>
       obtain ⟨Ar,n2,m2,rfl,rfl,rfl,HN2,HD,HQ2⟩:=hcut
       clear w0 w1' w2' x0 x1 x2 x3 x4
       replace HQ:At (fun W=>(BX W wt.heap.size [.int .i64 p.1,.slice B1 p.2.1.1.length d1,.bool p.2.1.2,.slice A1 p.2.2.1.length c1,.bool p.2.2.2]∧BX W g11 [.string s.1,.string s.2.1,.slice (some ⟨b1,o1,none⟩) s.2.2.length np])∧(RT W B1 d1 p.2.1.1∧RT W A1 c1 p.2.2.1)∧Below wt.heap.size wt W) wc:=⟨HQ.1,HQ2.out⟩
       clear HQ2
       obtain ⟨W3,rfl⟩:∃ W3,W3=wc:=⟨wc,rfl⟩
       have d1':=HD.out.lenc
       have d2':=HD.out.capc
       rw [List.length_drop,← HN2.out] at d1'
       have hn15:n2≤15:=by have:=HN2.out;omega
       go_wp2_with fail
       go_loopw [15,71] (fun s15 s71 wr=>∃ (j:Nat) (A15:Option Addr) (c15:Nat),j≤n2∧s71=.int .i64 j∧s15=.slice A15 j c15∧Hid (Below W3.heap.size W3 wr)∧Hid (SO elP wr W3.heap.size 45 (.slice A15 j c15) kN ((laterL s.2.2 k).take j))) (fun _ s71 _=>n2-(intOf s71).toNat)
       case atStart=>exact ⟨0,none,0,Nat.zero_le _,rfl,rfl,lh (Below.refl _ _),lh (SO.nil _ _ _ _ _)⟩
       case round =>
        obtain ⟨j,A15,c15,hj,rfl,rfl,HB3,HSO3⟩:=hrel
        by_cases hjl:j<n2
        ·obtain ⟨p2,hp2⟩:∃ p2,(s.2.2.drop k1)[j]? = some p2:=⟨_,gE (by rw [List.length_drop,← HN2.out];exact hjl)⟩
         obtain ⟨b2,o2,B2,d2,A2,c2,rfl,hb2,e0,e1,e2,e3,e4,k3,k4⟩:=(HD.out.below HB3.out).ln hp2
         have HRT:=lh k3
         have HTK:Hid ((laterL s.2.2 k).take (j+1)=(laterL s.2.2 k).take j++[p2.2.1]):=lh (later_take (by rw [←hk1];exact hp2))
         have hjl2:((laterL s.2.2 k).take j).length=j:=by rw [List.length_take,later_len];have:=HN2.out;omega
         clear hp2 k3 k4
         go_wp2_with (at_builtin;refine wpList_append_so1 elP elPT rfl _ _ rfl W3.heap.size _ kN ((laterL s.2.2 k).take j) p2.2.1 [.slice B2 p2.2.1.1.length d2,.bool p2.2.1.2] (wr.heap.size+1) 1 rfl rfl (HSO3.out.below bB) ⟨B2,d2,rfl,HRT.out.below bB⟩ (cells_new _ [_,_] _ (by simp)) (by simp) (by omega) (by omega) (by omega) (by have:=HB3.out.size;simp;omega) ?_;intro v8 w8 hso8 hg8 hor8;obtain ⟨A8,n8,c8,rfl,hn8l⟩:=so_shape hso8;have HSO8:=lh hso8;have HB8:=lh ((go3 HB3.out (show Below wr.heap.size wr _ from bB)).grown hg8 (Nat.le_trans HB3.out.size (by simp;omega)) (fun j hj=>(HSO3.out.own j hj).1));clear hso8 hg8 hor8)
         have e8:=hn8l.out
         rw [List.length_append,hjl2] at e8
         simp only [List.length_cons,List.length_nil,Nat.zero_add] at e8
         subst e8
         go_roundw
         case rel=>exact ⟨j+1,A8,c8,by omega,by go_num,rfl,HB8,lh (by rw [HTK.out];exact HSO8.out)⟩
         case measure=>simp [intOf];omega
        ·obtain rfl:j=n2:=by omega
         have hll:(laterL s.2.2 k).length=j:=by rw [later_len];have:=HN2.out;omega
         rw [List.take_of_length_le (by omega:(laterL s.2.2 k).length≤j)] at HSO3
         obtain ⟨A5,c5,e5,hsv5,-,-⟩:=HSO3.out.read (fun _ _ h=>h)
         rw [hll] at e5
         simp only [Value.slice.injEq] at e5
         obtain ⟨rfl,-,rfl⟩:=e5
         have HBT:=lh hsv5.bt
         clear hsv5 HSO3
         replace HQ:=HQ.go HB3.out
         obtain ⟨wu,rfl⟩:∃ wu,wu=wr:=⟨wr,rfl⟩
         obtain ⟨G,HG⟩:∃ G,Hid (ownR s.2.2 k p=G):=⟨_,lh rfl⟩
         have HRD:=lh (fun W (hW:Below wu.heap.size wu W)=>(show Calls Tryz.prog 74 #[.agg #[.slice B1 p.2.1.1.length d1,.bool p.2.1.2],.slice A15 j c15] W (fun e w'=>∃ B d A c,e=.returned (.agg #[.slice B G.1.1.length d,.bool G.1.2,.slice A G.2.length c])∧RG w' G B d A c∧(∀ a,A=some a→W.heap.size≤a.block)∧Below W.heap.size W w') from by
          have h9:=reduce_any B1 A15 d1 c15 p.2.1 (laterL s.2.2 k) W (HQ.out.2.1.1.below hW) (HBT.out.below hW) (szP_of (lineOk.parts HLK.out).1 HZK.out.1 (by omega)) (fun q hq=>by
           unfold laterL at hq
           obtain ⟨x,hx,rfl⟩:=List.mem_map.1 hq
           exact szP_of (lineOk.parts (HLO.out x (List.mem_of_mem_drop hx))).1 (HZL.out x (List.mem_of_mem_drop hx)).1 (by omega)) (by omega)
          rw [hll] at h9
          refine h9.mono ?_
          rintro e w' ⟨B,d,A,c,rfl,⟨g1,g2,-,g4⟩,g5⟩
          rw [←HG.out]
          exact ⟨B,d,A,c,rfl,⟨g1,g2⟩,g4,g5⟩))
         have HGO:Hid (okRg G∧szR 5000 G):=lh (by
          rw [←HG.out]
          exact ⟨⟨(lineOk.parts HLK.out).1,redH_ok,Nat.le_trans (redH_len _ _) (by omega)⟩,szN_up HZK.out.1 (by omega),fun h hh=>szN_up (redH_sz HZK.out.1 (fun q hq=>by
           unfold laterL at hq
           obtain ⟨x,hx,rfl⟩:=List.mem_map.1 hq
           exact (HZL.out x (List.mem_of_mem_drop hx)).1) h hh) (by omega)⟩)
         have HG40:Hid (szN 40 G.1):=lh (by rw [←HG.out];exact HZK.out.1)
         rw [HG.out] at HLR
         obtain ⟨t0,t1,t2,t3,t4⟩:=HQ.out.1.1.c5
         have htl:=HQ.out.1.1.2.2
         go_wp2_with (go_at_call 74;refine (HRD.out _ bB).mono ?_;rintro e w5 ⟨B5,d5,A5,c5,rfl,hg5,hf5,hb5⟩;have HG5:=lh hg5;have HF5:=lh hf5;have HB5:=lh hb5;clear hg5 hf5 hb5)
         obtain ⟨W6,hW6⟩:∃ W6,W6=w5.alloc (.cells #[.slice B5 G.1.1.length d5,.bool G.1.2,.slice A5 G.2.length c5] 48):=⟨_,rfl⟩
         have HB6:Hid (Below wu.heap.size wu W6):=lh (by rw [hW6];exact go3 HB5.out (ba _ _))
         have HX6:Hid (BX W6 w5.heap.size [.slice B5 G.1.1.length d5,.bool G.1.2,.slice A5 G.2.length c5]):=lh (by rw [hW6];exact BX.new w5 _ _ rfl)
         have HG6:Hid (RG W6 G B5 d5 A5 c5):=lh (by rw [hW6];exact HG5.out.below (ba _ _))
         have HQ6:=HQ.go HB6.out
         have HF6:Hid (∀ a,A5=some a→wt.heap.size≤a.block):=lh (fun a ea=>Nat.le_trans HQ.out.2.2.size (HF5.out a ea))
         have hg18:wt.heap.size≤w5.heap.size:=Nat.le_trans HQ.out.2.2.size HB5.out.size
         have hl18:w5.heap.size<W6.heap.size:=HX6.out.2.2
         have hl14:wt.heap.size<W6.heap.size:=HQ6.out.1.1.2.2
         have hwt:W2.heap.size≤wt.heap.size:=HB.out.size
         have HSO6:=lh (HSO.out.below HQ6.out.2.2)
         have HO6:Hid (∀ b,(Value.slice A12 rq.length c12).ownBlock=some b→b<wt.heap.size):=lh (fun b hb=>(HSO.out.own b hb).2)
         have HA6:=lh (HSA2.out.fresh.below (go3 HB.out HQ6.out.2.2))
         have HB26:=lh (go3 HB.out HQ6.out.2.2)
         rw [←hW6]
         clear hW6 HG5 HF5 HB5 HQ t0 t1 t2 t3 t4 htl HRD HBT HB6 HD HB3
         generalize w5.heap.size=g18 at *
         go_loopw [12,87] (fun s12 s87 wr=>∃ (t:Nat) (rt:List Pc) (A13:Option Addr) (c13:Nat),t≤ab.length∧s87=.int .i64 t∧s12=.slice A13 rt.length c13∧Hid ((ab.take t).foldl (stepQ s.1 p G) (some rq)=some rt)∧Hid (SO elPc wr W2.heap.size 71 (.slice A13 rt.length c13) kN rt)∧Hid (Ch (kM W2.heap.size wt.heap.size W6.heap.size) W6 wr)∧Hid (∀ b,(Value.slice A13 rt.length c13).ownBlock=some b→b<wt.heap.size∨W6.heap.size≤b)∧Hid (Below W2.heap.size W2 wr)) (fun _ s87 _=>ab.length-(intOf s87).toNat)
         case atStart=>exact ⟨0,rq,A12,c12,Nat.zero_le _,rfl,rfl,lh rfl,HSO6,lh (Ch.refl _ _),lh (fun b hb=>.inl (HO6.out b hb)),HB26⟩
         case round =>
          obtain ⟨t,rt,A13,c13,ht,rfl,rfl,HFD,HS,HCH,HOW,HBW⟩:=hrel
          have hrt:rt.length≤32:=stepQ_len _ _ _ h32 HFD.out
          have hsz6:W6.heap.size≤wr.heap.size:=HCH.out.size
          by_cases htl:t<ab.length
          ·obtain ⟨q,hq⟩:∃ q,ab[t]? = some q:=⟨_,gE htl⟩
           have HSN:=lh (fold_snoc (name:=s.1) (p:=p) (own:=G) (r:=some rq) hq)
           rw [HFD.out] at HSN
           have HPQ:=lh (HPZ.out.1 q (mG hq))
           have HQW:At (fun W=>(BX W wt.heap.size [.int .i64 p.1,.slice B1 p.2.1.1.length d1,.bool p.2.1.2,.slice A1 p.2.2.1.length c1,.bool p.2.2.2]∧BX W g11 [.string s.1,.string s.2.1,.slice (some ⟨b1,o1,none⟩) s.2.2.length np]∧BX W g18 [.slice B5 G.1.1.length d5,.bool G.1.2,.slice A5 G.2.length c5])∧(RT W B1 d1 p.2.1.1∧RT W A1 c1 p.2.2.1∧RG W G B5 d5 A5 c5)∧Below wr.heap.size wr W) wr :=
            ⟨fun X Y h hb=>⟨⟨h.1.1.below hb,h.1.2.1.below hb,h.1.2.2.below hb⟩,⟨h.2.1.1.below hb,h.2.1.2.1.below hb,h.2.1.2.2.below hb⟩,go3 h.2.2 hb⟩,
             ⟨HQ6.out.1.1.ch (kM_not (.inr (Nat.le_refl _)) hl14) HCH.out,HQ6.out.1.2.ch (kM_not (.inl hg11) (by omega)) HCH.out,HX6.out.ch (kM_not (.inr hg18) hl18) HCH.out⟩,
             ⟨HQ6.out.2.1.1.ch HCH.out,HQ6.out.2.1.2.ch HCH.out,HG6.out.1.ch HCH.out,HG6.out.2.ch (fun h0 a ea=>kM_not (.inr (HF6.out a ea)) (HG6.out.2.lt h0 a ea)) HCH.out⟩,Below.refl _ _⟩
           have HSW:=lh (HA6.out.ch (HCH.out.mono (fun j hj=>by unfold kM at hj;exact .inr (by omega))))
           obtain ⟨b7,o7,B7,d7,A7',c7',C7,n7,D7,m7,rfl,hb7,hcs,hpg⟩:=HSW.out.pc hq
           have z0:=hcs 0 _ rfl;have z1:=hcs 1 _ rfl;have z2:=hcs 2 _ rfl;have z3:=hcs 3 _ rfl;have z4:=hcs 4 _ rfl;have z5:=hcs 5 _ rfl;have z6:=hcs 6 _ rfl;have z7:=hcs 7 _ rfl;have z8:=hcs 8 _ rfl
           rw [Nat.add_zero] at z0
           have HPG:=lh hpg
           have HBQ:At (fun W=>BX W wr.heap.size (pcV q B7 d7 A7' c7' C7 n7 D7 m7)∧Below wr.heap.size wr W) (wr.alloc (.cells (pcV q B7 d7 A7' c7' C7 n7 D7 m7).toArray 71)):=⟨fun X Y h hb=>⟨h.1.below hb,go3 h.2 hb⟩,BX.new wr _ _ rfl,ba _ _⟩
           simp only [pcV] at HBQ
           have HME:=lh (fun W (hW:Below wr.heap.size wr W)=>regMeet_any G q.1 B5 A5 B7 A7' d5 c5 d7 c7' W ((HQW.go hW).out.2.1.2.2) (hpg.1.below hW) HGO.out.1 HPQ.out.1 HGO.out.2 HPQ.out.2.1)
           have HNW:=lh (fun W B d A c (hW:Below wr.heap.size wr W) (ho:rmO G q.1=true) (hg:RG W (rmB G q.1) B d A c)=>narrowed_any s.1 p q (rmB G q.1) B1 d1 A1 c1 B7 d7 A7' c7' C7 n7 D7 m7 B d A c W (HQW.go hW).out.2.1.1 (HQW.go hW).out.2.1.2.1 (hpg.below hW) hg (wide_ok hnm100 HLK.out HZK.out HG40.out HPQ.out ho).1 (wide_ok hnm100 HLK.out HZK.out HG40.out HPQ.out ho).2.1 (wide_ok hnm100 HLK.out HZK.out HG40.out HPQ.out ho).2.2.1 (wide_ok hnm100 HLK.out HZK.out HG40.out HPQ.out ho).2.2.2.1 (wide_ok hnm100 HLK.out HZK.out HG40.out HPQ.out ho).2.2.2.2 (HM.out.below (go3 HW.out (go3 HBW.out hW))))
           simp only [pcV,rgV] at HNW
           have HDE:Hid (stepQ s.1 p G (some rt) q=none→pcsF l (n+1) i=none):=lh (fun h=>by
            rw [HPC.out,HAB.out]
            dsimp only
            refine rowQ_le (k:=k+1) ?_ hlt
            rw [HLR.out]
            exact fold_dead (t:=t+1) (HSN.out.trans h))
           clear hq hcs hpg
           cases hro:rmO G q.1 with
           | false =>
            have HME2:=lh (fun W hW=>(HME.out W hW).mono fun _ _ k=>k.2 hro)
            cases hre:rmE G q.1 with
            | true =>
             have HNO:=lh (HDE.out (stepQ_e hre))
             rw [hre] at HME2
             simp only [if_true] at HME2
             clear HME HNW hro hre
             obtain ⟨u0,u1,u2⟩:=HQW.out.1.2.2.c3
             have ul:=HQW.out.1.2.2.2.2
             go_wp2_with (go_at_call 82;refine (HME2.out _ bB).mono ?_;rintro e w9 ⟨rfl,hb9⟩;have HB9:=lh (go3 (show Below wr.heap.size wr _ from bB) hb9);clear hb9)
             go_ret2
             exact ⟨fun ps h=>(by rw [HNO.out] at h;cases h),fun _=>⟨rfl,go3 HW.out (go3 HBW.out (go3 HB9.out bB))⟩⟩
            | false =>
             have HST:Hid ((ab.take (t+1)).foldl (stepQ s.1 p G) (some rq)=some rt):=lh (HSN.out.trans (stepQ_s hre hro))
             rw [hre] at HME2
             simp only [Bool.false_eq_true,if_false] at HME2
             clear HME HNW hro hre
             obtain ⟨u0,u1,u2⟩:=HQW.out.1.2.2.c3
             have ul:=HQW.out.1.2.2.2.2
             go_wp2_with (go_at_call 82;refine (HME2.out _ bB).mono ?_;rintro e w9 ⟨rfl,hb9⟩;have HB9:=lh (go3 (show Below wr.heap.size wr _ from bB) hb9);clear hb9)
             go_roundw
             case rel=>exact ⟨t+1,rt,A13,c13,by omega,by go_num,rfl,HST,lh (HS.out.below (go3 HB9.out bB)),lh (HCH.out.trans (Ch.of_below (go3 HB9.out bB))),HOW,lh (go3 HBW.out (go3 HB9.out bB))⟩
             case measure=>simp [intOf];omega
           | true =>
            have HME2:=lh (fun W hW=>(HME.out W hW).mono fun _ _ k=>k.1 hro)
            have HRO:=lh hro
            clear HME hro
            obtain ⟨H,HH⟩:∃ H,Hid (rmB G q.1=H):=⟨_,lh rfl⟩
            rw [HH.out] at HME2
            have HNW2:=lh (fun W B d A c hW (hg:RG W H B d A c)=>HNW.out W B d A c hW HRO.out (by rw [HH.out];exact hg))
            rw [HH.out] at HNW2
            clear HNW
            obtain ⟨u0,u1,u2⟩:=HQW.out.1.2.2.c3
            have ul:=HQW.out.1.2.2.2.2
            obtain ⟨N9,HN9⟩:∃ N9,Hid (nwP s.1 p q H=N9):=⟨_,lh rfl⟩
            by_cases hnw:nwE s.1 p q H=0
            ·have HNW3:=lh (fun W B d A c hW hg=>(HNW2.out W B d A c hW hg).mono fun _ _ k=>k.1 hnw)
             rw [HN9.out] at HNW3
             simp only [pcV] at HNW3
             by_cases hr32:rt.length=32
             ·have HNO:=lh (HDE.out (stepQ_n HRO.out (.inr hr32)))
              have hb32:((rt.length:Int)==32)=true:=by rw [hr32];rfl
              clear HNW2 hnw
              go_wp2_with (first
               | (go_at_call 82;refine (HME2.out _ bB).mono ?_;rintro e w9 ⟨B8,d8,A8,c8,rfl,⟨hg8,hf8⟩,hb9⟩;have HG8:=lh hg8;have HB9:=lh (go3 (show Below wr.heap.size wr _ from bB) hb9);have HF8:Hid (∀ a,A8=some a→wr.heap.size≤a.block):=lh (fun a ea=>(by have h9:=hf8 a ea;simp at h9;omega));replace HBQ:=HBQ.go2 (Below.refl _ _) hb9;clear hb9 hg8 hf8 u0 u1 u2 ul z0 z1 z2 z3 z4 z5 z6 z7 z8;obtain ⟨v0,v1,v2,v3,v4⟩:=(HQW.go HB9.out).out.1.1.c5;have vl:=(HQW.go HB9.out).out.1.1.2.2;obtain ⟨v5,v6,v7⟩:=(HQW.go HB9.out).out.1.2.1.c3;have vl2:=(HQW.go HB9.out).out.1.2.1.2.2;have z0:=HBQ.out.1.1 0 _ rfl;have z1:=HBQ.out.1.1 1 _ rfl;have z2:=HBQ.out.1.1 2 _ rfl;have z3:=HBQ.out.1.1 3 _ rfl;have z4:=HBQ.out.1.1 4 _ rfl;have z5:=HBQ.out.1.1 5 _ rfl;have z6:=HBQ.out.1.1 6 _ rfl;have z7:=HBQ.out.1.1 7 _ rfl;have z8:=HBQ.out.1.1 8 _ rfl;have zl:=HBQ.out.1.2.2)
               | (go_at_call 83;refine (HNW3.out _ B8 d8 A8 c8 (go3 HB9.out bB) (HG8.out.below bB)).mono ?_;rintro e w10 ⟨C8,n8,D8,m8,rfl,-,hb10⟩;have HB10:=lh (go3 (go3 HB9.out (show Below w9.heap.size w9 _ from bB)) hb10);clear hb10))
              go_ret2
              exact ⟨fun ps h=>(by rw [HNO.out] at h;cases h),fun _=>⟨rfl,go3 HW.out (go3 HBW.out (go3 HB10.out bB))⟩⟩
             ·have HST:Hid ((ab.take (t+1)).foldl (stepQ s.1 p G) (some rq)=some (rt++[N9])):=lh (HSN.out.trans (by rw [stepQ_y HRO.out (by rw [HH.out];exact hnw) hr32,HH.out,HN9.out]))
              have hb32:((rt.length:Int)==32)=false:=by simp;omega
              clear HNW2 hnw
              go_upto_region 32 with (first
               | (go_at_call 82;refine (HME2.out _ bB).mono ?_;rintro e w9 ⟨B8,d8,A8,c8,rfl,⟨hg8,hf8⟩,hb9⟩;have HG8:=lh hg8;have HB9:=lh (go3 (show Below wr.heap.size wr _ from bB) hb9);have HF8:Hid (∀ a,A8=some a→wr.heap.size≤a.block):=lh (fun a ea=>(by have h9:=hf8 a ea;simp at h9;omega));replace HBQ:=HBQ.go2 (Below.refl _ _) hb9;clear hb9 hg8 hf8 u0 u1 u2 ul z0 z1 z2 z3 z4 z5 z6 z7 z8;obtain ⟨v0,v1,v2,v3,v4⟩:=(HQW.go HB9.out).out.1.1.c5;have vl:=(HQW.go HB9.out).out.1.1.2.2;obtain ⟨v5,v6,v7⟩:=(HQW.go HB9.out).out.1.2.1.c3;have vl2:=(HQW.go HB9.out).out.1.2.1.2.2;have z0:=HBQ.out.1.1 0 _ rfl;have z1:=HBQ.out.1.1 1 _ rfl;have z2:=HBQ.out.1.1 2 _ rfl;have z3:=HBQ.out.1.1 3 _ rfl;have z4:=HBQ.out.1.1 4 _ rfl;have z5:=HBQ.out.1.1 5 _ rfl;have z6:=HBQ.out.1.1 6 _ rfl;have z7:=HBQ.out.1.1 7 _ rfl;have z8:=HBQ.out.1.1 8 _ rfl;have zl:=HBQ.out.1.2.2)
               | (go_at_call 83;refine (HNW3.out _ B8 d8 A8 c8 (go3 HB9.out bB) (HG8.out.below bB)).mono ?_;rintro e w10 ⟨C8,n8,D8,m8,rfl,hp10,hb10⟩;have HB10:=lh (go3 (go3 HB9.out (show Below w9.heap.size w9 _ from bB)) hb10);have HP10:=lh hp10;clear hb10 hp10))
              have HV:At (fun W=>BX W w10.heap.size [.slice B8 N9.1.1.1.length d8,.bool N9.1.1.2,.slice A8 N9.1.2.length c8,.int .i64 N9.2.1,.bool false,.slice C8 N9.2.2.1.1.length n8,.bool N9.2.2.1.2,.slice D8 N9.2.2.2.1.length m8,.bool N9.2.2.2.2]∧SO elPc W W2.heap.size 71 (.slice A13 rt.length c13) kN rt∧PG W N9 B8 d8 A8 c8 C8 n8 D8 m8∧Below wr.heap.size wr W) (w10.alloc (.cells #[.slice B8 N9.1.1.1.length d8,.bool N9.1.1.2,.slice A8 N9.1.2.length c8,.int .i64 N9.2.1,.bool false,.slice C8 N9.2.2.1.1.length n8,.bool N9.2.2.1.2,.slice D8 N9.2.2.2.1.length m8,.bool N9.2.2.2.2] 71)) :=
               ⟨fun X Y h hb=>⟨h.1.below hb,h.2.1.below hb,h.2.2.1.below hb,go3 h.2.2.2 hb⟩,BX.new w10 _ _ rfl,(HS.out.below HB10.out).below (ba _ _),HP10.out.below (ba _ _),go3 HB10.out (ba _ _)⟩
              clear HP10 HB10 HB9 HG8 HBQ HNW3 HME2 v0 v1 v2 v3 v4 v5 v6 v7 vl vl2 z0 z1 z2 z3 z4 z5 z6 z7 z8 zl
              generalize hVV:w10.alloc (.cells #[.slice B8 N9.1.1.1.length d8,.bool N9.1.1.2,.slice A8 N9.1.2.length c8,.int .i64 N9.2.1,.bool false,.slice C8 N9.2.2.1.1.length n8,.bool N9.2.2.1.2,.slice D8 N9.2.2.2.1.length m8,.bool N9.2.2.2.2] 71)=V at *
              clear hVV
              generalize w10.heap.size=g24 at *
              have z0:=HV.out.1.1 0 _ rfl;have z1:=HV.out.1.1 1 _ rfl;have z2:=HV.out.1.1 2 _ rfl;have z3:=HV.out.1.1 3 _ rfl;have z4:=HV.out.1.1 4 _ rfl;have z5:=HV.out.1.1 5 _ rfl;have z6:=HV.out.1.1 6 _ rfl;have z7:=HV.out.1.1 7 _ rfl;have z8:=HV.out.1.1 8 _ rfl
              have zl:=HV.out.1.2.2
              have hvs:wr.heap.size≤V.heap.size:=HV.out.2.2.2.size
              go_wp2_with (at_builtin;refine wpList_append_so1 elPc elPcT rfl _ _ rfl W2.heap.size _ kN rt N9 [.slice B8 N9.1.1.1.length d8,.bool N9.1.1.2,.slice A8 N9.1.2.length c8,.int .i64 N9.2.1,.bool false,.slice C8 N9.2.2.1.1.length n8,.bool N9.2.2.1.2,.slice D8 N9.2.2.2.1.length m8,.bool N9.2.2.2.2] V.heap.size 1 rfl rfl (HV.out.2.1.below (ba _ _)) ⟨B8,d8,A8,c8,C8,n8,D8,m8,rfl,HV.out.2.2.1.below (ba _ _),fun _ a ea hk=>(hk.elim (fun h=>by have h8:=(HS.out.own _ h).2;have h9:=HF8.out a ea;omega) (fun h=>h))⟩ (cells_new _ [_,_,_,_,_,_,_,_,_] _ rfl) (by simp) (by omega) (by omega) (by omega) (by simp;omega) ?_;intro v8 w8 hso8 hg8 hor8;obtain ⟨A9,n9,c9,rfl,hn9l⟩:=so_shape hso8;have HSO8:=lh hso8;have HGR8:=lh hg8;have HOR8:=lh hor8;clear hso8 hg8 hor8)
              go_roundw
              case rel =>
               refine ⟨t+1,rt++[N9],A9,c9,by omega,by go_num,by rw [hn9l.out],HST,?_,?_,?_,?_⟩
               ·rw [hn9l.out] at HSO8
                exact HSO8
               ·exact lh ((HCH.out.trans (Ch.of_below (go3 HV.out.2.2.2 (ba V _)))).trans (Ch.of_grown HGR8.out (fun j hj=>⟨by
                 have h1:=HOW.out j hj
                 have h2:=(HS.out.own j hj).1
                 unfold kM
                 omega,(HV.out.2.1.below (ba V _)).nso j hj⟩)))
               ·refine lh (fun b hb=>?_)
                rw [←hn9l.out] at hb
                rcases HOR8.out with e|e
                ·rw [e] at hb;exact HOW.out b hb
                ·rw [e] at hb
                 cases hb
                 refine .inr ?_
                 simp
                 omega
               ·exact lh ((go3 HBW.out (go3 HV.out.2.2.2 (ba V _))).grown HGR8.out (go3 HBW.out (go3 HV.out.2.2.2 (ba V _))).size (fun j hj=>(HS.out.own j hj).1))
              case measure=>simp [intOf];omega
            ·have HNO:=lh (HDE.out (stepQ_n HRO.out (.inl (by rw [HH.out];exact hnw))))
             have HNW3:=lh (fun W B d A c hW hg=>(HNW2.out W B d A c hW hg).mono fun _ _ k=>k.2 hnw)
             simp only [zero9] at HNW3
             clear HNW2 hnw
             go_wp2_with (first
              | (go_at_call 82;refine (HME2.out _ bB).mono ?_;rintro e w9 ⟨B8,d8,A8,c8,rfl,⟨hg8,hf8⟩,hb9⟩;have HG8:=lh hg8;have HB9:=lh (go3 (show Below wr.heap.size wr _ from bB) hb9);have HF8:Hid (∀ a,A8=some a→wr.heap.size≤a.block):=lh (fun a ea=>(by have h9:=hf8 a ea;simp at h9;omega));replace HBQ:=HBQ.go2 (Below.refl _ _) hb9;clear hb9 hg8 hf8 u0 u1 u2 ul z0 z1 z2 z3 z4 z5 z6 z7 z8;obtain ⟨v0,v1,v2,v3,v4⟩:=(HQW.go HB9.out).out.1.1.c5;have vl:=(HQW.go HB9.out).out.1.1.2.2;obtain ⟨v5,v6,v7⟩:=(HQW.go HB9.out).out.1.2.1.c3;have vl2:=(HQW.go HB9.out).out.1.2.1.2.2;have z0:=HBQ.out.1.1 0 _ rfl;have z1:=HBQ.out.1.1 1 _ rfl;have z2:=HBQ.out.1.1 2 _ rfl;have z3:=HBQ.out.1.1 3 _ rfl;have z4:=HBQ.out.1.1 4 _ rfl;have z5:=HBQ.out.1.1 5 _ rfl;have z6:=HBQ.out.1.1 6 _ rfl;have z7:=HBQ.out.1.1 7 _ rfl;have z8:=HBQ.out.1.1 8 _ rfl;have zl:=HBQ.out.1.2.2)
              | (go_at_call 83;refine (HNW3.out _ B8 d8 A8 c8 (go3 HB9.out bB) (HG8.out.below bB)).mono ?_;rintro e w10 ⟨rfl,hb10⟩;have HB10:=lh (go3 (go3 HB9.out (show Below w9.heap.size w9 _ from bB)) hb10);clear hb10))
             go_ret2
             exact ⟨fun ps h=>(by rw [HNO.out] at h;cases h),fun _=>⟨rfl,go3 HW.out (go3 HBW.out (go3 HB10.out bB))⟩⟩
          ·obtain rfl:t=ab.length:=by omega
           rw [List.take_length] at HFD
           have HR2:Hid (rowQ s.1 s.2.2 ab (k+1)=some rt):=lh (HLR.out.trans HFD.out)
           go_wp2_with fail
           go_roundw
           case rel=>exact ⟨k+1,rt,A13,c13,by omega,by go_num,rfl,HR2,HBW,HS⟩
           case measure=>simp [intOf];omega
    ·obtain rfl:k=s.2.2.length:=by omega
     go_wp2_with fail
     go_ret2
     obtain ⟨A9,c9,e9,hsv9,-,-⟩:=HSO.out.read (fun _ _ h=>h)
     simp only [Value.slice.injEq] at e9
     obtain ⟨rfl,-,rfl⟩:=e9
     have hv:pcsF l (n+1) i=some rq:=by rw [HPC.out,HAB.out];exact HRQ.out
     exact ⟨fun ps h=>(by rw [hv] at h;cases h;exact ⟨A12,c12,rfl,hsv9,go3 HW.out HB.out⟩),fun h=>(by rw [hv] at h;cases h)⟩
theorem pieces_any (g m:Nat) (A:Option Addr) (c0:Nat) (l:List St) (hl:l.length≤100) (hz:SzS l) (hln:∀ s∈l,∀ p∈s.2.2,lineOk p=true) (hP:∀ n,n≤16→∀ i ps,pcsF l n i=some ps→∀ q∈ps,VzOk q) (n:Nat):∀ (i:Nat) (w:World),n≤16→FO w g m A c0 l→i<l.length→okF l n i→ML w →
 Calls Tryz.prog 52 #[.pointer (some ⟨g,0,none⟩),.int .i64 i] w (RetPc w (pcsF l n i)):=by
 induction n with
 | zero=>intro i w hn h hi ho hm;exact ho.elim
 | succ n ih=>intro i w hn h hi ho hm;exact pieces_step g m A c0 l hl hz hln n (hP n (by omega)) (fun i w h hi ho hm=>ih i w (by omega) h hi ho hm) i w h hi ho hm
end Go.Proofs.YtelkmeiepliecaaGreatDoor

/-
  Part 47 of the proof.
-/
import Derived.Test.YtelkmeiepliecaaGreatDoorU46
set_option linter.unusedSimpArgs false
set_option linter.unusedVariables false
set_option maxHeartbeats 16000000
namespace Go.Proofs.YtelkmeiepliecaaGreatDoor
open Go.RowKit Go.Shelf
attribute [local go_sem] Oper.semAt_some
theorem wpListIn_append_so1 {α:Type} {F:Fence} {nF:Nat} {P:Program} {S E:TypeId} (e:El α) (t:ElT P S E e.size) {w:World} {ops:Array Oper} {rest:List Oper} {o:Oper} {a:Act} {Q:Exit→Act→World→Prop} (hgd:o.guard=none) (s x:Operand)
 (ho:o.op=.call { callee:=.builtin .append,args:=#[s,x],argTypes:=#[S,S] })
 (base:Nat) (v:Value) (L:Nat→Prop) (xs:List α) (y:α) (r:List Value) (b c:Nat) (hs':a.eval s=v) (hx:a.eval x=.slice (some ⟨b,0,none⟩) 1 c) (h:SO e w base E v L xs)
 (hr:e.R w (avO v L) y r) (hcells:∀ (i:Nat) (u:Value),r[i]? = some u→w.cell? ⟨b,i,none⟩=some u) (hb:b<w.heap.size) (hc1:1≤c) (hc2:c≤9223372036854775807) (hlen:xs.length+1≤1000000) (hbase:base≤w.heap.size)
 (hK:∀ v' w',SO e w' base E v' L (xs++[y])→w.grownBy w' v.ownBlock→(v'.ownBlock=v.ownBlock∨v'.ownBlock=some w.heap.size)→wpListIn F nF P ops Q rest (a.put o.dst v') w'):wpListIn F nF P ops Q (o::rest) a w:=by
 refine wpListIn_plain hgd fun K hK'=>?_
 obtain ⟨v',w',hrun,h2,h3,h4,_⟩:=run_append_so e t w base v L xs [y] (some ⟨b,0,none⟩) c o.type h [r] ⟨hc1,hc2,fun _=>⟨b,0,rfl,hb,fun j q hj i u hu=>by
  cases j with
  | zero =>
   cases hj
   simpa using hcells i u hu
  | succ j=>simp at hj⟩⟩ (Rel.single hr) hlen hbase
 rw [show [y].length=1 from rfl] at hrun
 unfold Oper.wpIn
 refine ⟨by simp [Oper.about,ho,resolve,Target.leads,Sem.run_pure],?_⟩
 rw [Oper.semAt_plain F _ _ (by rw [ho];intro c' hc';cases hc')]
 simp [execOp,ho,resolve,invoke,builtin,hs',hx,hrun,Result.andThen]
 exact hK' _ _ (hK v' w' h2 h3 h4)
def cmH (e f:En) (k:Nat):List Pn:=e.2.2++nrsR e.2.1 e.1 (f.2.2.take k)
theorem cmH_zero (e f:En):cmH e f 0=e.2.2:=by unfold cmH nrsR;simp
theorem cmH_all (e f:En):cmH e f f.2.2.length=chH e f:=by unfold cmH chH;rw [List.take_length]
theorem cmH_succ {e f:En} {k:Nat} {p:Pn} (h:f.2.2[k]? = some p):cmH e f (k+1)=cmH e f k++(if nrO e.2.1 e.1 p=true then [nrR e.2.1 e.1 p] else []):=by
 unfold cmH
 rw [nrsR_snoc h,List.append_assoc]
theorem cmH_len (e f:En) (k:Nat):(cmH e f k).length≤e.2.2.length+f.2.2.length:=by
 unfold cmH
 have:=nrsR_len e.2.1 e.1 (f.2.2.take k)
 rw [List.length_take] at this
 rw [List.length_append]
 omega
theorem chain_P {e f:En} {A A' B B' H H':Option Addr} {c c' d d' n n':Nat} (V:World) (h:EG V e A c B d H n∧EG V f A' c' B' d' H' n') (hm:ML V) (ke:okEn e∧szE 2400 e) (kf:okEn f∧szE 2400 f) :
 Calls Tryz.prog 28 #[.agg #[.bool false,.slice A e.1.1.length c,.bool e.1.2,.slice B e.2.1.1.length d,.bool e.2.1.2],.agg #[.bool false,.slice A' f.1.1.length c',.bool f.1.2,.slice B' f.2.1.1.length d',.bool f.2.1.2]] V fun x w' =>
  ∃ C1 m1 C2 m2,x=.returned (.tuple #[.agg #[.bool false,.slice C1 (chPL e f).1.length m1,.bool (chPL e f).2,.slice C2 (chPR e f).1.length m2,.bool (chPR e f).2],.bool (chO' e f),.int .i64 (chN e f)])∧(RT w' C1 m1 (chPL e f).1∧RT w' C2 m2 (chPR e f).1)∧Below V.heap.size V w' :=
 (chain_any false A c e.1.1 e.1.2 B d e.2.1.1 e.2.1.2 false A' c' f.1.1 f.1.2 B' d' f.2.1.1 f.2.1.2 V h.1.1 h.1.2.1 h.2.1 h.2.2.1 hm (fun x hx=>Nat.le_trans (ke.2.1 x hx) (by omega)) (fun x hx=>Nat.le_trans (ke.2.2.1 x hx) (by omega)) (fun x hx=>Nat.le_trans (kf.2.1 x hx) (by omega)) (fun x hx=>Nat.le_trans (kf.2.2.1 x hx) (by omega)) (by have:=(okPn_len ke.1.1.okr).2;omega) (by have:=(okPn_len kf.1.1.okl).2;omega)).mono fun x w' h=>by
  obtain ⟨A2,c2,B2,d2,e1,h1,h2,h3⟩:=h
  exact ⟨A2,c2,B2,d2,e1,⟨h1,h2⟩,h3⟩
def CmI (w:World) (g s:Nat) (a b:List En) (pre:List {q:Nat // q<a.length * b.length}) (W:World):Prop :=
 Below w.heap.size w W∧s≤W.heap.size∧(BNX W w.heap.size [.slice none 0 0]∧BNX W (w.heap.size+1) [.int .i64 0])∧(∃ A c,CO elE 73 W g (g+1) A c (cmpC a b (pre.map (·.1))).1 (cmpC a b (pre.map (·.1))).2)∧∀ q∈pre,∀ e f,prI a b q.1=some (e,f)→cmpB e f=false
def CmX (w:World) (a b:List En) (cd:Code) (pre:List {q:Nat // q<a.length * b.length}) (W:World):Prop :=
 cd=.ret∧(∃ q∈pre,∃ e f,prI a b q.1=some (e,f)∧cmpB e f=true)∧(BX W w.heap.size [.slice none 0 0]∧BX W (w.heap.size+1) [.int .i64 72])∧Below w.heap.size w W
theorem CmI.own {w:World} {g s B:Nat} {a b:List En} (hB:w.heap.size≤B):OwnFrom B (CmI w g s a b):=fun pre X Y row h hg hr=>by
 obtain ⟨h1,h2,⟨h3,h4⟩,⟨A,c,h5⟩,h6⟩:=h
 have hn:NC X row:=fun r e=>(hr r e).2
 exact ⟨h1.grown hg h1.size (fun k e=>Nat.le_trans hB (hr k e).1),Nat.le_trans h2 hg.size,⟨h3.nc hg hn,h4.nc hg hn⟩,⟨A,c,h5.gn gnE hg hn⟩,h6⟩
theorem CmX.own {w:World} {B:Nat} {a b:List En} (hB:w.heap.size≤B) (cd:Code):OwnFrom B (CmX w a b cd):=fun pre X Y row h hg hr=>by
 obtain ⟨h1,h2,⟨h3,h4⟩,h5⟩:=h
 have hn:NC X row:=fun r e=>(hr r e).2
 exact ⟨h1,h2,⟨BX.nc h3 hg hn,BX.nc h4 hg hn⟩,h5.grown hg h5.size (fun k e=>Nat.le_trans hB (hr k e).1)⟩
def RetCm (w:World) (a b:List En) (x:Ending) (w':World):Prop :=
 (cmpE a b≠0→x=.returned (.tuple #[.slice none 0 0,.int .i64 (cmpE a b)])∧Below w.heap.size w w') ∧
 (cmpE a b=0→∃ A c,x=.returned (.tuple #[.slice A (cmpL a b).1.length c,.int .i64 0])∧SV elE w' kN A c (cmpL a b).1∧Below w.heap.size w w')
theorem RetCm.bad {w w':World} {a b:List En} {x:Ending} {n:Int} (hE:cmpE a b=n) (hn:n≠0) (hx:x=.returned (.tuple #[.slice none 0 0,.int .i64 n])) (hb:Below w.heap.size w w'):RetCm w a b x w':=⟨fun _=>⟨by rw [hE];exact hx,hb⟩,fun h=>absurd (hE▸h) hn⟩
theorem RetCm.good {w w':World} {a b:List En} {x:Ending} {L:List En} {A:Option Addr} {c:Nat} (hE:cmpE a b=0) (hL:(cmpL a b).1=L) (hx:x=.returned (.tuple #[.slice A L.length c,.int .i64 0])) (hs:SV elE w' kN A c L) (hb:Below w.heap.size w w'):RetCm w a b x w':=by
 subst hL
 exact ⟨fun h=>absurd hE h,fun _=>⟨A,c,hx,hs,hb⟩⟩
theorem cm_ret {w W V:World} {B:Nat} {a b:List En} {pre:List {q:Nat // q<a.length * b.length}} {x:{q:Nat // q<a.length * b.length}} {e f:En} (hB:Below w.heap.size w W) (h4:BNX W w.heap.size [.slice none 0 0]) (h5:BNX W (w.heap.size+1) [.int .i64 0]) (hV:Below W.heap.size W V) (hp:prI a b x.1=some (e,f)) (hg:cmpB e f=true) :
 KeepsFrom B W ((V.setCell ⟨w.heap.size,0,none⟩ (.slice none 0 0)).setCell ⟨w.heap.size+1,0,none⟩ (.int .i64 72))∧CmX w a b .ret (pre++[x]) ((V.setCell ⟨w.heap.size,0,none⟩ (.slice none 0 0)).setCell ⟨w.heap.size+1,0,none⟩ (.int .i64 72)):=by
 have x4:=h4.below hV
 have x5:=h5.below hV
 have y5:BX (V.setCell ⟨w.heap.size,0,none⟩ (.slice none 0 0)) (w.heap.size+1) [.int .i64 0]:=x5.1.other (p:=⟨w.heap.size,0,none⟩) (by simp) _
 exact ⟨(kf_below hV).trans (((KeepsOthers.setCell _ _ _).trans (KeepsOthers.setCell _ _ _)).from _),rfl,⟨x,by simp,e,f,hp,hg⟩,⟨BX.other (x4.1.set (j:=0) (by simp) _) (by simp) _,y5.set (j:=0) (by simp) _⟩,
  ((go3 hB hV).setCell (p:=⟨w.heap.size,0,none⟩) (Nat.le_refl _) _).setCell (p:=⟨w.heap.size+1,0,none⟩) (by show w.heap.size≤w.heap.size+1;omega) _⟩
theorem cm_on {w W V:World} {g s B:Nat} {a b:List En} {pre:List {q:Nat // q<a.length * b.length}} {x:{q:Nat // q<a.length * b.length}} {e f:En} (hB:Below w.heap.size w W) (hs:s≤W.heap.size) (h4:BNX W w.heap.size [.slice none 0 0]) (h5:BNX W (w.heap.size+1) [.int .i64 0]) (hN:∀ q∈pre,∀ e f,prI a b q.1=some (e,f)→cmpB e f=false)
 {A:Option Addr} {c:Nat} (kc:CO elE 73 W g (g+1) A c (cmpC a b (pre.map (·.1))).1 (cmpC a b (pre.map (·.1))).2) (hp:prI a b x.1=some (e,f)) (hg:cmpB e f=false) (hV:Below W.heap.size W V) (hS:cmpS (cmpC a b (pre.map (·.1))) e f=cmpC a b (pre.map (·.1))) :
 KeepsFrom B W V∧KpC g W V∧CmI w g s a b (pre++[x]) V:=by
 have hC:cmpC a b ((pre++[x]).map (·.1))=cmpC a b (pre.map (·.1)):=by
  rw [List.map_append,← hS]
  exact (prC_snoc hp).trans rfl
 refine ⟨kf_below hV,KpC.below hV,go3 hB hV,Nat.le_trans hs hV.size,⟨h4.below hV,h5.below hV⟩,⟨A,c,by rw [hC];exact kc.below hV⟩,fun q hq e' f' hp'=>?_⟩
 rcases List.mem_append.1 hq with hq|hq
 ·exact hN q hq e' f' hp'
 ·rw [List.mem_singleton.1 hq,hp] at hp'
  cases hp'
  exact hg
theorem cm_add {w W V V2:World} {g s B:Nat} {a b:List En} {pre:List {q:Nat // q<a.length * b.length}} {x:{q:Nat // q<a.length * b.length}} {e f:En} {l r:Pn} {ps:List Pn} (hB:Below w.heap.size w W) (hs:s≤W.heap.size) (h4:BNX W w.heap.size [.slice none 0 0]) (h5:BNX W (w.heap.size+1) [.int .i64 0]) (hN:∀ q∈pre,∀ e f,prI a b q.1=some (e,f)→cmpB e f=false)
 {A:Option Addr} {c:Nat} (kc:CO elE 73 W g (g+1) A c (cmpC a b (pre.map (·.1))).1 (cmpC a b (pre.map (·.1))).2) (hp:prI a b x.1=some (e,f)) (hg:cmpB e f=false) (hV:Below W.heap.size W V) (hS:cmpS (cmpC a b (pre.map (·.1))) e f=putC (cmpC a b (pre.map (·.1))) l r ps)
 {A2:Option Addr} {c2:Nat} (k2:CO elE 73 V2 g (g+1) A2 c2 (putC (cmpC a b (pre.map (·.1))) l r ps).1 (putC (cmpC a b (pre.map (·.1))) l r ps).2) (hlo:Below g V V2) (hch:Ch (fun j=>j=g∨(Value.slice A (cmpC a b (pre.map (·.1))).1.length c).ownBlock=some j) V V2) (hown:OwnN A (cmpC a b (pre.map (·.1))).1.length c A2 (putC (cmpC a b (pre.map (·.1))) l r ps).1.length c2 V.heap.size) (hwg:w.heap.size+1<g) :
 KeepsFrom B W V2∧KpC g W V2∧CmI w g s a b (pre++[x]) V2:=by
 have hC:cmpC a b ((pre++[x]).map (·.1))=putC (cmpC a b (pre.map (·.1))) l r ps:=by
  rw [List.map_append,← hS]
  exact (prC_snoc hp).trans rfl
 obtain ⟨p1,p2⟩:=KpC.add (kc.below hV) k2 rfl rfl hch hown
 refine ⟨(kf_below hV).trans (p2 B),(KpC.below hV).trans p1,(go3 hB hV).trans (hlo.mono (by omega)),Nat.le_trans hs (Nat.le_trans hV.size hlo.size),⟨(h4.below hV).same (hlo.block _ (by omega)),(h5.below hV).same (hlo.block _ (by omega))⟩,⟨A2,c2,by rw [hC];exact k2⟩,fun q hq e' f' hp'=>?_⟩
 rcases List.mem_append.1 hq with hq|hq
 ·exact hN q hq e' f' hp'
 ·rw [List.mem_singleton.1 hq,hp] at hp'
  cases hp'
  exact hg
def CmK (w W V:World):Prop:=BNX V w.heap.size [.slice none 0 0]∧BNX V (w.heap.size+1) [.int .i64 0]∧Below w.heap.size w V∧∀ B,KeepsFrom B W V
theorem CmK.of {w W V V2:World} {g:Nat} {A A2:Option Addr} {c c2:Nat} {xs ys:List En} {fl fl2:Bool} (hB:Below w.heap.size w W) (hV:Below W.heap.size W V) (h4:BNX W w.heap.size [.slice none 0 0]) (h5:BNX W (w.heap.size+1) [.int .i64 0]) (kc:CO elE 73 W g (g+1) A c xs fl) (k2:CO elE 73 V2 g (g+1) A2 c2 ys fl2) (hlo:Below g V V2) (hch:Ch (fun j=>j=g∨(Value.slice A xs.length c).ownBlock=some j) V V2) (hown:OwnN A xs.length c A2 ys.length c2 V.heap.size) (hwg:w.heap.size+1<g):CmK w W V2:=by
 obtain ⟨_,p2⟩:=KpC.add (kc.below hV) k2 rfl rfl hch hown
 exact ⟨(h4.below hV).same (hlo.block _ (by omega)),(h5.below hV).same (hlo.block _ (by omega)),(go3 hB hV).trans (hlo.mono (by omega)),fun B=>(kf_below hV).trans (p2 B)⟩
theorem cm_ret2 {w W V:World} {B:Nat} {a b:List En} {pre:List {q:Nat // q<a.length * b.length}} {x:{q:Nat // q<a.length * b.length}} {e f:En} (hK:CmK w W V) (hp:prI a b x.1=some (e,f)) (hg:cmpB e f=true) :
 KeepsFrom B W ((V.setCell ⟨w.heap.size,0,none⟩ (.slice none 0 0)).setCell ⟨w.heap.size+1,0,none⟩ (.int .i64 72))∧CmX w a b .ret (pre++[x]) ((V.setCell ⟨w.heap.size,0,none⟩ (.slice none 0 0)).setCell ⟨w.heap.size+1,0,none⟩ (.int .i64 72)):=by
 obtain ⟨x4,x5,hb,hk⟩:=hK
 have y5:BX (V.setCell ⟨w.heap.size,0,none⟩ (.slice none 0 0)) (w.heap.size+1) [.int .i64 0]:=x5.1.other (p:=⟨w.heap.size,0,none⟩) (by simp) _
 exact ⟨(hk B).trans (((KeepsOthers.setCell _ _ _).trans (KeepsOthers.setCell _ _ _)).from _),rfl,⟨x,by simp,e,f,hp,hg⟩,⟨BX.other (x4.1.set (j:=0) (by simp) _) (by simp) _,y5.set (j:=0) (by simp) _⟩,
  (hb.setCell (p:=⟨w.heap.size,0,none⟩) (Nat.le_refl _) _).setCell (p:=⟨w.heap.size+1,0,none⟩) (by show w.heap.size≤w.heap.size+1;omega) _⟩
def RetPut3 (w:World) (A0:Option Addr) (c0 g base:Nat) (s:List En×Bool) (l r:Pn) (ps:List Pn) (w':World):Prop:=∃ A c,CO elE 73 w' g base A c (putC s l r ps).1 (putC s l r ps).2∧Below g w w'∧Ch (fun j=>j=g∨(Value.slice A0 s.1.length c0).ownBlock=some j) w w'∧OwnN A0 s.1.length c0 A (putC s l r ps).1.length c w.heap.size
set_option maxRecDepth 100000 in
theorem compose_any (a b:List En) (A0 B0:Option Addr) (c0 d0:Nat) (w:World) (ha:SV elE w kN A0 c0 a) (hb:SV elE w kN B0 d0 b) (oka:okM a) (okb:okM b) (hm:ML w)
 (hSP:∀ e∈a,∀ f∈b,chO' e f=true→szP (chPL e f)∧(chPR e f).1.length≤100000∧∀ q∈chH e f,szP q) :
 Calls Tryz.prog 12 #[.slice A0 a.length c0,.slice B0 b.length d0] w (RetCm w a b):=by
 have HCK:Hid (∀ W g,Below w.heap.size w W→BX W g [.slice A0 a.length c0,.slice B0 b.length d0]→Calls Tryz.prog 23 #[.slice (some ⟨g,0,none⟩) 2 2] W fun x w'=>x=.returned (.int .i64 (chkMs [a,b]))∧Below W.heap.size W w'):=lh (fun W g hW hg =>
  mcheck_any [a,b] kN (some ⟨g,0,none⟩) 2 W (sv2 (ha.below hW) (hb.below hW) hg (fun h=>h) (Nat.le_refl _) (by omega)) (fun q hq=>by
   rcases List.mem_cons.1 hq with rfl|hq
   ·exact oka
   ·rw [List.mem_singleton.1 hq];exact okb) (hm.below hW))
 have h1:(1:Nat)≤3:=by omega
 refine (callsIn_wide (n:=6)).1 ?_
 refine callsIn_of_wp_marks Tryz.func12 rfl trivial ?_ rfl
 simp only [Tryz.ntmps12,List.size_toArray,List.length_cons,List.length_nil,Nat.reduceAdd,Nat.reduceSub,Array.replicate_succ,Array.replicate_zero,List.push_toArray,List.append_toArray,List.nil_append,List.cons_append]
 by_cases hz:chkMs [a,b]=0
 ·rw [hz] at HCK
  gi_wp2_with (first
   | (refine ⟨trivial,?_⟩;gi_at_call 23;refine (callsIn_wide.2 (HCK.out _ _ bB (BX.new _ [_,_] _ (by simp)))).mono ?_;rintro x w1 ⟨rfl,hb1⟩;have HB1:=lh hb1;clear hb1)
   | (refine ⟨trivial,?_⟩;gi_at_call 27;refine (callsIn_wide.2 (pairs_any _ _ _ _ _ _ _)).mono ?_;rintro e w2 ⟨rfl,hx1,hx2,hb2⟩;have HB2:=lh hb2;have HX1:=lh hx1;have HX2:=lh hx2;clear hb2 hx1 hx2))
  have hg0:w.heap.size+1+1≤w1.heap.size:=by have:=HB1.out.size;simp at this;omega
  have hB0:Below w.heap.size w w2:=go3 (go3 bB HB1.out) (go3 (ba w1 _) HB2.out)
  have b4:BNX w2 w.heap.size [.slice none 0 0]:=(((BNX.new w [.slice none 0 0] 29 rfl (ns1 ns_slice)).below bB).below HB1.out).below (go3 (ba w1 _) HB2.out)
  have b5:BNX w2 (w.heap.size+1) [.int .i64 0]:=(((BNX.new (w.alloc (.cells #[.slice none 0 0] 29)) [.int .i64 0] 26 (by simp) (ns1 ns_int)).below bB).below HB1.out).below (go3 (ba w1 _) HB2.out)
  have hco:CO elE 73 w2 w1.heap.size (w1.heap.size+1) none 0 [] false:=(CO.new elE 73 78 w1).below HB2.out
  have hx1:=HX1.out
  have hx2:=HX2.out
  simp only [World.size_alloc] at hx1 hx2
  have hno:∀ j,¬ ownG w1.heap.size w2 j:=fun j ⟨v,hv,ho⟩=>by
   have:=hco.1.1.1 0 _ rfl
   rw [this] at hv
   cases hv
   cases ho
  obtain ⟨r1,hr1,he1⟩:=ha.r5w hB0 (by omega:w.heap.size≤w1.heap.size) hno
  obtain ⟨r2,hr2,he2⟩:=hb.r5w hB0 (by omega:w.heap.size≤w1.heap.size) hno
  have hs2:w1.heap.size+1+1<w2.heap.size:=hx2.2.2
  have hla:=oka.2
  have hlb:=okb.2
  have hsf:SafeC w1.heap.size (w1.heap.size+1+1) w2:=⟨cells_of (hx2.1 0 _ rfl),by omega,hno _⟩
  refine wpIn_rangeFunc_ownH rfl (by omega) (gf:=56) (lb:=#[.pointer (some ⟨w1.heap.size+1,0,none⟩),.pointer (some ⟨w1.heap.size+1+1,0,none⟩)]) rfl trivial (enters_of Tryz.func56 (by kernel_rfl) rfl)
   (pairs_stops Fence.wide 5 trivial rfl (by omega) w1.heap.size (w1.heap.size+1) (w1.heap.size+1+1) a.length b.length c0 d0 A0 B0 r1 r2 w2 (by omega) (by omega) (hx1.1 0 _ rfl) (by omega) ⟨⟨hsf,hx2.1 0 _ rfl⟩,hr1,hr2⟩ hco.good) KpC.trans (fun W l o o' hl hW hc hw=>KpC.put (by omega:w1.heap.size<w2.heap.size) W l o o' hl hW hc hw) (Below.refl _ _) (fun _=>rfl)
   (CmI w w1.heap.size w2.heap.size a b) (CmX w a b) (CmI.own (by omega)) (CmX.own (by omega))
   ⟨hB0,Nat.le_refl _,⟨b4,b5⟩,⟨none,0,hco⟩,fun q hq=>by cases hq⟩
   (fun x a' W=>∃ Bx By,w2.heap.size≤Bx∧w2.heap.size≤By∧BX W Bx (r1 (x.1 / b.length)).l∧BX W By (r2 (x.1 % b.length)).l∧a'={ tmps:=#[.slice A0 a.length c0,.slice B0 b.length d0,undef,undef,.pointer (some ⟨w.heap.size,0,none⟩),.pointer (some ⟨w.heap.size+1,0,none⟩),.int .i64 0,.pointer (some ⟨w1.heap.size,0,none⟩),.pointer (some ⟨Bx,0,none⟩),.pointer (some ⟨By,0,none⟩),undef,undef,undef,undef,undef,undef,undef,undef,undef,undef,.slice A0 a.length c0,.slice B0 b.length d0,.slice (some ⟨w.heap.size+1+1,0,none⟩) 2 2,.int .i64 0,.int .i64 0,.bool false,undef,.slice A0 a.length c0,.slice B0 b.length d0,.func (.func 56) #[] #[.pointer (some ⟨w1.heap.size+1,0,none⟩),.pointer (some ⟨w1.heap.size+1+1,0,none⟩)],.agg (r1 (x.1 / b.length)).l.toArray,.agg (r2 (x.1 % b.length)).l.toArray,undef,undef,undef,undef,undef,undef,undef,undef,undef,undef,undef,undef,undef,undef,undef,undef,undef,undef,undef,undef,undef,undef,undef,undef,undef,undef,undef,undef,undef,undef,undef,undef,undef,undef,undef,undef,undef,undef,undef,undef,undef,undef,undef,undef,undef,undef,undef,undef,undef],defers:=[] })
   (fun x a' _ X Y row hs hg hr=>by obtain ⟨Bx,By,h1,h2,h3,h4,h5⟩:=hs;exact ⟨Bx,By,h1,h2,BX.nc h3 hg (fun r e=>(hr r e).2),BX.nc h4 hg (fun r e=>(hr r e).2),h5⟩)
   ?assign ?body ?done ?stop
  case assign =>
   rintro l pre x W K ⟨hB,hs,⟨k4,k5⟩,⟨A,c,kc⟩,hN⟩ hK
   simp only [R5.l]
   gi_wp2
   have hb2:Below W.heap.size W ((W.alloc (.cells (r1 (x.1 / b.length)).l.toArray 73)).alloc (.cells (r2 (x.1 % b.length)).l.toArray 73)):=bB
   exact hK _ _ (((KeepsOthers.alloc _ _).trans (KeepsOthers.alloc _ _)).from _) (KpC.below hb2) ⟨go3 hB hb2,Nat.le_trans hs hb2.size,⟨k4.below hb2,k5.below hb2⟩,⟨A,c,kc.below hb2⟩,hN⟩ ⟨W.heap.size,W.heap.size+1,hs,by omega,(BX.new W _ _ rfl).below (ba _ _),BX.new _ _ _ (by simp),rfl⟩
  case body =>
   rintro l pre x a' W hl2 ⟨rr,hrr⟩ ⟨hB,hs,⟨k4,k5⟩,⟨A9,c9,kc⟩,hN⟩ ⟨Bx,By,hBx,hBy,bX,bY,rfl⟩ hlt
   obtain ⟨e,f,hei,hfi,hpr⟩:=prI_some x.2
   obtain ⟨A,c,B,d,H,n,hr5,heg⟩:=he1 _ e hei
   obtain ⟨A',c',B',d',H',n',hr5',hfg⟩:=he2 _ f hfi
   have hea:=mG hei
   have hfb:=mG hfi
   have hke:=oka.1 e hea
   have hkf:=okb.1 f hfb
   rw [hr5] at bX
   rw [hr5'] at bY
   simp only [hr5,hr5',Go.Proofs.YtelkmeiepliecaaGreatDoor.r5,R5.l] at bX bY ⊢
   have hegW:=EG.below heg hB
   have hfgW:=EG.below hfg hB
   have HQ:At (fun V=>(BX V Bx [.slice A e.1.1.length c,.bool e.1.2,.slice B e.2.1.1.length d,.bool e.2.1.2,.slice H e.2.2.length n]∧BX V By [.slice A' f.1.1.length c',.bool f.1.2,.slice B' f.2.1.1.length d',.bool f.2.1.2,.slice H' f.2.2.length n'])∧(EG V e A c B d H n∧EG V f A' c' B' d' H' n')∧ML V∧Below W.heap.size W V) W :=
    ⟨fun X Y h hb=>⟨⟨h.1.1.below hb,h.1.2.below hb⟩,⟨h.2.1.1.below hb,h.2.1.2.below hb⟩,h.2.2.1.below hb,go3 h.2.2.2 hb⟩,⟨bX,bY⟩,⟨hegW,hfgW⟩,hm.below hB,Below.refl _ _⟩
   have HKS:Hid (∀ V,((BX V Bx [.slice A e.1.1.length c,.bool e.1.2,.slice B e.2.1.1.length d,.bool e.2.1.2,.slice H e.2.2.length n]∧BX V By [.slice A' f.1.1.length c',.bool f.1.2,.slice B' f.2.1.1.length d',.bool f.2.1.2,.slice H' f.2.2.length n'])∧(EG V e A c B d H n∧EG V f A' c' B' d' H' n')∧ML V∧Below W.heap.size W V)→(V.cell? ⟨Bx,0,none⟩=some (.slice A e.1.1.length c)∧V.cell? ⟨Bx,1,none⟩=some (.bool e.1.2)∧V.cell? ⟨Bx,2,none⟩=some (.slice B e.2.1.1.length d)∧V.cell? ⟨Bx,3,none⟩=some (.bool e.2.1.2)∧V.cell? ⟨Bx,4,none⟩=some (.slice H e.2.2.length n))∧(V.cell? ⟨By,0,none⟩=some (.slice A' f.1.1.length c')∧V.cell? ⟨By,1,none⟩=some (.bool f.1.2)∧V.cell? ⟨By,2,none⟩=some (.slice B' f.2.1.1.length d')∧V.cell? ⟨By,3,none⟩=some (.bool f.2.1.2)∧V.cell? ⟨By,4,none⟩=some (.slice H' f.2.2.length n'))):=lh (fun V h=>⟨h.1.1.c5,h.1.2.c5⟩)
   have HK5:Hid (∀ V g a1 a2 a3 a4 a5,((BX V Bx [.slice A e.1.1.length c,.bool e.1.2,.slice B e.2.1.1.length d,.bool e.2.1.2,.slice H e.2.2.length n]∧BX V By [.slice A' f.1.1.length c',.bool f.1.2,.slice B' f.2.1.1.length d',.bool f.2.1.2,.slice H' f.2.2.length n'])∧(EG V e A c B d H n∧EG V f A' c' B' d' H' n')∧ML V∧Below W.heap.size W V)→g≠Bx→g≠By→((((((V.setCell ⟨g,0,none⟩ a1).setCell ⟨g,1,none⟩ a2).setCell ⟨g,2,none⟩ a3).setCell ⟨g,3,none⟩ a4).setCell ⟨g,4,none⟩ a5).cell? ⟨Bx,0,none⟩=some (.slice A e.1.1.length c)∧(((((V.setCell ⟨g,0,none⟩ a1).setCell ⟨g,1,none⟩ a2).setCell ⟨g,2,none⟩ a3).setCell ⟨g,3,none⟩ a4).setCell ⟨g,4,none⟩ a5).cell? ⟨Bx,1,none⟩=some (.bool e.1.2)∧(((((V.setCell ⟨g,0,none⟩ a1).setCell ⟨g,1,none⟩ a2).setCell ⟨g,2,none⟩ a3).setCell ⟨g,3,none⟩ a4).setCell ⟨g,4,none⟩ a5).cell? ⟨Bx,2,none⟩=some (.slice B e.2.1.1.length d)∧(((((V.setCell ⟨g,0,none⟩ a1).setCell ⟨g,1,none⟩ a2).setCell ⟨g,2,none⟩ a3).setCell ⟨g,3,none⟩ a4).setCell ⟨g,4,none⟩ a5).cell? ⟨Bx,3,none⟩=some (.bool e.2.1.2)∧(((((V.setCell ⟨g,0,none⟩ a1).setCell ⟨g,1,none⟩ a2).setCell ⟨g,2,none⟩ a3).setCell ⟨g,3,none⟩ a4).setCell ⟨g,4,none⟩ a5).cell? ⟨Bx,4,none⟩=some (.slice H e.2.2.length n))∧((((((V.setCell ⟨g,0,none⟩ a1).setCell ⟨g,1,none⟩ a2).setCell ⟨g,2,none⟩ a3).setCell ⟨g,3,none⟩ a4).setCell ⟨g,4,none⟩ a5).cell? ⟨By,0,none⟩=some (.slice A' f.1.1.length c')∧(((((V.setCell ⟨g,0,none⟩ a1).setCell ⟨g,1,none⟩ a2).setCell ⟨g,2,none⟩ a3).setCell ⟨g,3,none⟩ a4).setCell ⟨g,4,none⟩ a5).cell? ⟨By,1,none⟩=some (.bool f.1.2)∧(((((V.setCell ⟨g,0,none⟩ a1).setCell ⟨g,1,none⟩ a2).setCell ⟨g,2,none⟩ a3).setCell ⟨g,3,none⟩ a4).setCell ⟨g,4,none⟩ a5).cell? ⟨By,2,none⟩=some (.slice B' f.2.1.1.length d')∧(((((V.setCell ⟨g,0,none⟩ a1).setCell ⟨g,1,none⟩ a2).setCell ⟨g,2,none⟩ a3).setCell ⟨g,3,none⟩ a4).setCell ⟨g,4,none⟩ a5).cell? ⟨By,3,none⟩=some (.bool f.2.1.2)∧(((((V.setCell ⟨g,0,none⟩ a1).setCell ⟨g,1,none⟩ a2).setCell ⟨g,2,none⟩ a3).setCell ⟨g,3,none⟩ a4).setCell ⟨g,4,none⟩ a5).cell? ⟨By,4,none⟩=some (.slice H' f.2.2.length n'))):=lh (fun V g a1 a2 a3 a4 a5 h h1 h2=>by
    obtain ⟨⟨e0,e1,e2,e3,e4⟩,⟨e5,e6,e7,e8,e9⟩⟩:=HKS.out V h
    rw [set5_other _ _ _ _ _ (Ne.symm h1),set5_other _ _ _ _ _ (Ne.symm h1),set5_other _ _ _ _ _ (Ne.symm h1),set5_other _ _ _ _ _ (Ne.symm h1),set5_other _ _ _ _ _ (Ne.symm h1),set5_other _ _ _ _ _ (Ne.symm h2),set5_other _ _ _ _ _ (Ne.symm h2),set5_other _ _ _ _ _ (Ne.symm h2),set5_other _ _ _ _ _ (Ne.symm h2),set5_other _ _ _ _ _ (Ne.symm h2)]
    exact ⟨⟨e0,e1,e2,e3,e4⟩,⟨e5,e6,e7,e8,e9⟩⟩)
   have HLE:=lh (fun V=>line_any A B H e.1.1.length c e.2.1.1.length d e.2.2.length n e.1.2 e.2.1.2 V)
   have HLF:=lh (fun V=>line_any A' B' H' f.1.1.length c' f.2.1.1.length d' f.2.2.length n' f.1.2 f.2.1.2 V)
   have HCH:=lh (fun V (h:EG V e A c B d H n∧EG V f A' c' B' d' H' n') (hm:ML V)=>chain_P V h hm hke hkf)
   have hBxl:=bX.2.2
   have hByl:=bY.2.2
   obtain ⟨⟨y0,y1,y2,y3,y4⟩,⟨z0,z1,z2,z3,z4⟩⟩:=HKS.out W HQ.out
   have h1':1≤6-1-1:=by omega
   have HKC:=lh kc
   have H4:=lh k4
   have H5:=lh k5
   have HB:=lh hB
   have HPR:=lh hpr
   have HN:=lh hN
   have HPZ:=lh (hSP e hea f hfb)
   have HPE:=lh hke
   have HPF:=lh hkf
   clear kc k4 k5 hB hpr hN hegW hfgW heg hfg hr5 hr5' bX bY hei hfi hea hfb hke hkf b4 b5 hco hx1 hx2 hno hr1 hr2 hsf ha hb oka okb hm hSP hB0 he1 he2 HB1 HB2 HX1 HX2 HCK
   gi_upto_region 8 with fail
   gi_cut [10,11,12] from 81 (fun s10 s11 s12 wx=>∃ (g:Nat) (C1:Option Addr) (m1:Nat) (C2:Option Addr) (m2:Nat),s10=.pointer (some ⟨g,0,none⟩)∧s11=.bool (chO' e f)∧s12=.int .i64 (chN e f)∧Hid (W.heap.size≤g∧BX wx g [.bool false,.slice C1 (chPL e f).1.length m1,.bool (chPL e f).2,.slice C2 (chPR e f).1.length m2,.bool (chPR e f).2]∧(RT wx C1 m1 (chPL e f).1∧RT wx C2 m2 (chPR e f).1)∧Below W.heap.size W wx))
   case first =>
    refine wpIn_region_held (S:=fun V=>(V.cell? ⟨Bx,0,none⟩=some (.slice A e.1.1.length c)∧V.cell? ⟨Bx,1,none⟩=some (.bool e.1.2)∧V.cell? ⟨Bx,2,none⟩=some (.slice B e.2.1.1.length d)∧V.cell? ⟨Bx,3,none⟩=some (.bool e.2.1.2)∧V.cell? ⟨Bx,4,none⟩=some (.slice H e.2.2.length n))∧(V.cell? ⟨By,0,none⟩=some (.slice A' f.1.1.length c')∧V.cell? ⟨By,1,none⟩=some (.bool f.1.2)∧V.cell? ⟨By,2,none⟩=some (.slice B' f.2.1.1.length d')∧V.cell? ⟨By,3,none⟩=some (.bool f.2.1.2)∧V.cell? ⟨By,4,none⟩=some (.slice H' f.2.2.length n'))) (by kernel_rfl) (by kernel_rfl) ?hs0 (fun hHeld=>?_)
    case hs0=>exact HKS.out _ (HQ.go (by with_reducible apply Below.drew;with_reducible exact Below.refl _ _)).out
    refine tK 0 (v:=?_) 33 rfl rfl (Or.inl ⟨by rfl,?yy⟩) hHeld ?_
    case yy =>
     intro w' hSw
     try dsimp only at hSw
     go_simp<;>with_reducible rfl
    try simp only [Act.put,sL]
    refine tK 2 (v:=?_) 35 rfl rfl (Or.inl ⟨by rfl,?yy⟩) hHeld ?_
    case yy =>
     intro w' hSw
     try dsimp only at hSw
     go_simp<;>with_reducible rfl
    try simp only [Act.put,sL]
    refine wpAnyH_ready (rs:=[1,9]) (by kernel_rfl) (by simp) ?_
    refine AllReadyH.cons rfl (fun K hK=>?_) (AllReadyH.cons rfl (fun K hK=>?_) AllReadyH.nil)
    ·skip
     go_simp
     (go_at_call 29;with_reducible refine (HLE.out _).mono ?_;rintro x w5 ⟨rfl,hb5⟩;replace HQ:=HQ.go2 bB hb5;(try replace HG:=HG.go2 bB hb5);clear hb5)
     clear hHeld
     refine hK.out _ _ ?hs1 (fun hHeld=>?_)
     case hs1=>exact HKS.out _ (HQ.go bB).out
     clear hK K
     try simp only [Act.put,sL]
     refine wpAnyH_ready (rs:=[3,9]) (by kernel_rfl) (by simp) ?_
     refine AllReadyH.cons rfl (fun K hK=>?_) (AllReadyH.cons rfl (fun K hK=>?_) AllReadyH.nil)
     ·skip
      go_simp
      (go_at_call 29;with_reducible refine (HLF.out _).mono ?_;rintro x w6 ⟨rfl,hb6⟩;replace HQ:=HQ.go2 bB hb6;(try replace HG:=HG.go2 bB hb6);clear hb6)
      clear hHeld
      refine hK.out _ _ ?hs1 (fun hHeld=>?_)
      case hs1=>exact HKS.out _ (HQ.go bB).out
      clear hK K
      try simp only [Act.put,sL]
      refine wpAnyH_ready (rs:=[4,9]) (by kernel_rfl) (by simp) ?_
      refine AllReadyH.cons rfl (fun K hK=>?_) (AllReadyH.cons rfl (fun K hK=>?_) AllReadyH.nil)
      ·skip
       go_simp
       (go_at_call 28;refine (HCH.out _ (HQ.go bB).out.2.1 (HQ.go bB).out.2.2.1).mono ?_;rintro x w7 ⟨C1,m1,C2,m2,rfl,hrt,hb7⟩;replace HQ:=HQ.go2 bB hb7;(try replace HG:=HG.go2 bB hb7);have HRT:At (fun V=>RT V C1 m1 (chPL e f).1∧RT V C2 m2 (chPR e f).1) w7:=⟨fun X Y h hb=>⟨h.1.below hb,h.2.below hb⟩,hrt⟩;clear hb7 hrt)
       clear hHeld
       refine hK.out _ _ ?hs1 (fun hHeld=>?_)
       case hs1=>exact HKS.out _ (HQ.go bB).out
       clear hK K
       try simp only [Act.put,sL]
       refine tK 5 (v:=?_) 32 rfl rfl (Or.inl ⟨by rfl,?yy⟩) hHeld ?_
       case yy =>
        intro w' hSw
        try dsimp only at hSw
        go_simp<;>with_reducible rfl
       try simp only [Act.put,sL]
       refine tK 6 (v:=?_) 38 rfl rfl (Or.inl ⟨by rfl,?yy⟩) hHeld ?_
       case yy =>
        intro w' hSw
        try dsimp only at hSw
        go_simp<;>with_reducible rfl
       try simp only [Act.put,sL]
       refine tK 7 (v:=?_) 39 rfl rfl (Or.inl ⟨by rfl,?yy⟩) hHeld ?_
       case yy =>
        intro w' hSw
        try dsimp only at hSw
        go_simp<;>with_reducible rfl
       try simp only [Act.put,sL]
       refine tK 8 (v:=?_) 40 rfl rfl (Or.inl ⟨by rfl,?yy⟩) hHeld ?_
       case yy =>
        intro w' hSw
        try dsimp only at hSw
        go_simp<;>with_reducible rfl
       try simp only [Act.put,sL]
       refine wpAnyH_ready (rs:=[9]) (by kernel_rfl) (by simp) ?_
       refine AllReadyH.cons rfl (fun K hK=>?_) AllReadyH.nil
       go_simp
       skip
       clear hHeld
       refine hK.out _ _ ?hs1 (fun hHeld=>?_)
       case hs1=>exact HKS.out _ (HQ.go bB).out
       clear hK K
       try simp only [Act.put,sL]
       first|refine al_newH (s:=W.heap.size) (cs:=[.bool false,.slice none 0 0,.bool false,.slice none 0 0,.bool false]) (ns5 ns_bool ns_slice ns_bool ns_slice ns_bool) ?hsz ?_|refine al_newD (s:=W.heap.size) (cs:=[.bool false,.slice none 0 0,.bool false,.slice none 0 0,.bool false]) (ns5 ns_bool ns_slice ns_bool ns_slice ns_bool) ?hsz ?_
       case hsz=>exact (HQ.go bB).out.2.2.2.size
       intro HG
       try simp only [World.size_alloc] at HG
       refine wpAnyH_ready (rs:=[10]) (by kernel_rfl) (by simp) ?_
       refine AllReadyH.cons rfl (fun K hK=>?_) AllReadyH.nil
       obtain ⟨t0,t1,t2,t3,t4⟩:=(HG.go bB).out.1.c5
       have f0:=(HG.go bB).out.1.2.1 0
       have f1:=(HG.go bB).out.1.2.1 1
       have f2:=(HG.go bB).out.1.2.1 2
       have f3:=(HG.go bB).out.1.2.1 3
       have f4:=(HG.go bB).out.1.2.1 4
       have tl:=(HG.go bB).out.1.2.2
       go_simp
       clear hHeld
       refine hK.out _ _ ?hs1 (fun hHeld=>?_)
       case hs1=>exact HKS.out _ (HQ.go bB).out
       clear hK K
       try simp only [Act.put,sL]
       refine tK 11 (v:=?_) 11 rfl rfl (Or.inl ⟨by rfl,?yy⟩) hHeld ?_
       case yy =>
        intro w' hSw
        try dsimp only at hSw
        go_simp<;>with_reducible rfl
       try simp only [Act.put,sL]
       refine tK 12 (v:=?_) 12 rfl rfl (Or.inl ⟨by rfl,?yy⟩) hHeld ?_
       case yy =>
        intro w' hSw
        try dsimp only at hSw
        go_simp<;>with_reducible rfl
       try simp only [Act.put,sL]
       refine wpAnyH_done (by kernel_rfl) ?_ _
       simp only [OnlyN]
       rename_i hmeet
       refine hmeet _ _ ?_
       gi_meet
       exact ⟨_,C1,m1,C2,m2,rfl,rfl,rfl,lh ⟨HG.out.2.2,BX.new _ [_,_,_,_,_] _ rfl,(HRT.go bB).out,(HQ.go bB).out.2.2.2⟩⟩
      ·skip
       go_simp
       skip
       clear hHeld
       refine hK.out _ _ ?hs1 (fun hHeld=>?_)
       case hs1=>exact HKS.out _ (HQ.go bB).out
       clear hK K
       try simp only [Act.put,sL]
       first|refine al_newH (s:=W.heap.size) (cs:=[.bool false,.slice none 0 0,.bool false,.slice none 0 0,.bool false]) (ns5 ns_bool ns_slice ns_bool ns_slice ns_bool) ?hsz ?_|refine al_newD (s:=W.heap.size) (cs:=[.bool false,.slice none 0 0,.bool false,.slice none 0 0,.bool false]) (ns5 ns_bool ns_slice ns_bool ns_slice ns_bool) ?hsz ?_
       case hsz=>exact (HQ.go bB).out.2.2.2.size
       intro HG
       try simp only [World.size_alloc] at HG
       refine wpAnyH_ready (rs:=[4]) (by kernel_rfl) (by simp) ?_
       refine AllReadyH.cons rfl (fun K hK=>?_) AllReadyH.nil
       go_simp
       (go_at_call 28;refine (HCH.out _ (HQ.go bB).out.2.1 (HQ.go bB).out.2.2.1).mono ?_;rintro x w7 ⟨C1,m1,C2,m2,rfl,hrt,hb7⟩;replace HQ:=HQ.go2 bB hb7;(try replace HG:=HG.go2 bB hb7);have HRT:At (fun V=>RT V C1 m1 (chPL e f).1∧RT V C2 m2 (chPR e f).1) w7:=⟨fun X Y h hb=>⟨h.1.below hb,h.2.below hb⟩,hrt⟩;clear hb7 hrt)
       clear hHeld
       refine hK.out _ _ ?hs1 (fun hHeld=>?_)
       case hs1=>exact HKS.out _ (HQ.go bB).out
       clear hK K
       try simp only [Act.put,sL]
       refine tK 5 (v:=?_) 32 rfl rfl (Or.inl ⟨by rfl,?yy⟩) hHeld ?_
       case yy =>
        intro w' hSw
        try dsimp only at hSw
        go_simp<;>with_reducible rfl
       try simp only [Act.put,sL]
       refine tK 6 (v:=?_) 38 rfl rfl (Or.inl ⟨by rfl,?yy⟩) hHeld ?_
       case yy =>
        intro w' hSw
        try dsimp only at hSw
        go_simp<;>with_reducible rfl
       try simp only [Act.put,sL]
       refine tK 7 (v:=?_) 39 rfl rfl (Or.inl ⟨by rfl,?yy⟩) hHeld ?_
       case yy =>
        intro w' hSw
        try dsimp only at hSw
        go_simp<;>with_reducible rfl
       try simp only [Act.put,sL]
       refine tK 8 (v:=?_) 40 rfl rfl (Or.inl ⟨by rfl,?yy⟩) hHeld ?_
       case yy =>
        intro w' hSw
        try dsimp only at hSw
        go_simp<;>with_reducible rfl
       try simp only [Act.put,sL]
       refine wpAnyH_ready (rs:=[10]) (by kernel_rfl) (by simp) ?_
       refine AllReadyH.cons rfl (fun K hK=>?_) AllReadyH.nil
       obtain ⟨t0,t1,t2,t3,t4⟩:=(HG.go bB).out.1.c5
       have f0:=(HG.go bB).out.1.2.1 0
       have f1:=(HG.go bB).out.1.2.1 1
       have f2:=(HG.go bB).out.1.2.1 2
       have f3:=(HG.go bB).out.1.2.1 3
       have f4:=(HG.go bB).out.1.2.1 4
       have tl:=(HG.go bB).out.1.2.2
       go_simp
       clear hHeld
       refine hK.out _ _ ?hs1 (fun hHeld=>?_)
       case hs1=>exact HK5.out _ _ _ _ _ _ _ (HQ.go bB).out (Nat.ne_of_gt (Nat.lt_of_lt_of_le hBxl HG.out.2.2)) (Nat.ne_of_gt (Nat.lt_of_lt_of_le hByl HG.out.2.2))
       clear hK K
       try simp only [Act.put,sL]
       refine tK 11 (v:=?_) 11 rfl rfl (Or.inl ⟨by rfl,?yy⟩) hHeld ?_
       case yy =>
        intro w' hSw
        try dsimp only at hSw
        go_simp<;>with_reducible rfl
       try simp only [Act.put,sL]
       refine tK 12 (v:=?_) 12 rfl rfl (Or.inl ⟨by rfl,?yy⟩) hHeld ?_
       case yy =>
        intro w' hSw
        try dsimp only at hSw
        go_simp<;>with_reducible rfl
       try simp only [Act.put,sL]
       refine wpAnyH_done (by kernel_rfl) ?_ _
       simp only [OnlyN]
       rename_i hmeet
       refine hmeet _ _ ?_
       gi_meet
       exact ⟨_,C1,m1,C2,m2,rfl,rfl,rfl,lh ⟨HG.out.2.2,(HG.go bB).out.1.set5 _ _ _ _ _,⟨(HRT.go bB).out.1.ch (ch_set5 (K:=fun _=>True) trivial (HG.go bB).out.2.1 ns_bool ns_slice ns_bool ns_slice _),(HRT.go bB).out.2.ch (ch_set5 (K:=fun _=>True) trivial (HG.go bB).out.2.1 ns_bool ns_slice ns_bool ns_slice _)⟩,below_set5 (HQ.go bB).out.2.2.2 HG.out.2.2 _ _ _ _ _⟩⟩
     ·skip
      go_simp
      skip
      clear hHeld
      refine hK.out _ _ ?hs1 (fun hHeld=>?_)
      case hs1=>exact HKS.out _ (HQ.go bB).out
      clear hK K
      try simp only [Act.put,sL]
      first|refine al_newH (s:=W.heap.size) (cs:=[.bool false,.slice none 0 0,.bool false,.slice none 0 0,.bool false]) (ns5 ns_bool ns_slice ns_bool ns_slice ns_bool) ?hsz ?_|refine al_newD (s:=W.heap.size) (cs:=[.bool false,.slice none 0 0,.bool false,.slice none 0 0,.bool false]) (ns5 ns_bool ns_slice ns_bool ns_slice ns_bool) ?hsz ?_
      case hsz=>exact (HQ.go bB).out.2.2.2.size
      intro HG
      try simp only [World.size_alloc] at HG
      refine wpAnyH_ready (rs:=[3]) (by kernel_rfl) (by simp) ?_
      refine AllReadyH.cons rfl (fun K hK=>?_) AllReadyH.nil
      go_simp
      (go_at_call 29;with_reducible refine (HLF.out _).mono ?_;rintro x w6 ⟨rfl,hb6⟩;replace HQ:=HQ.go2 bB hb6;(try replace HG:=HG.go2 bB hb6);clear hb6)
      clear hHeld
      refine hK.out _ _ ?hs1 (fun hHeld=>?_)
      case hs1=>exact HKS.out _ (HQ.go bB).out
      clear hK K
      try simp only [Act.put,sL]
      refine wpAnyH_ready (rs:=[4]) (by kernel_rfl) (by simp) ?_
      refine AllReadyH.cons rfl (fun K hK=>?_) AllReadyH.nil
      go_simp
      (go_at_call 28;refine (HCH.out _ (HQ.go bB).out.2.1 (HQ.go bB).out.2.2.1).mono ?_;rintro x w7 ⟨C1,m1,C2,m2,rfl,hrt,hb7⟩;replace HQ:=HQ.go2 bB hb7;(try replace HG:=HG.go2 bB hb7);have HRT:At (fun V=>RT V C1 m1 (chPL e f).1∧RT V C2 m2 (chPR e f).1) w7:=⟨fun X Y h hb=>⟨h.1.below hb,h.2.below hb⟩,hrt⟩;clear hb7 hrt)
      clear hHeld
      refine hK.out _ _ ?hs1 (fun hHeld=>?_)
      case hs1=>exact HKS.out _ (HQ.go bB).out
      clear hK K
      try simp only [Act.put,sL]
      refine tK 5 (v:=?_) 32 rfl rfl (Or.inl ⟨by rfl,?yy⟩) hHeld ?_
      case yy =>
       intro w' hSw
       try dsimp only at hSw
       go_simp<;>with_reducible rfl
      try simp only [Act.put,sL]
      refine tK 6 (v:=?_) 38 rfl rfl (Or.inl ⟨by rfl,?yy⟩) hHeld ?_
      case yy =>
       intro w' hSw
       try dsimp only at hSw
       go_simp<;>with_reducible rfl
      try simp only [Act.put,sL]
      refine tK 7 (v:=?_) 39 rfl rfl (Or.inl ⟨by rfl,?yy⟩) hHeld ?_
      case yy =>
       intro w' hSw
       try dsimp only at hSw
       go_simp<;>with_reducible rfl
      try simp only [Act.put,sL]
      refine tK 8 (v:=?_) 40 rfl rfl (Or.inl ⟨by rfl,?yy⟩) hHeld ?_
      case yy =>
       intro w' hSw
       try dsimp only at hSw
       go_simp<;>with_reducible rfl
      try simp only [Act.put,sL]
      refine wpAnyH_ready (rs:=[10]) (by kernel_rfl) (by simp) ?_
      refine AllReadyH.cons rfl (fun K hK=>?_) AllReadyH.nil
      obtain ⟨t0,t1,t2,t3,t4⟩:=(HG.go bB).out.1.c5
      have f0:=(HG.go bB).out.1.2.1 0
      have f1:=(HG.go bB).out.1.2.1 1
      have f2:=(HG.go bB).out.1.2.1 2
      have f3:=(HG.go bB).out.1.2.1 3
      have f4:=(HG.go bB).out.1.2.1 4
      have tl:=(HG.go bB).out.1.2.2
      go_simp
      clear hHeld
      refine hK.out _ _ ?hs1 (fun hHeld=>?_)
      case hs1=>exact HK5.out _ _ _ _ _ _ _ (HQ.go bB).out (Nat.ne_of_gt (Nat.lt_of_lt_of_le hBxl HG.out.2.2)) (Nat.ne_of_gt (Nat.lt_of_lt_of_le hByl HG.out.2.2))
      clear hK K
      try simp only [Act.put,sL]
      refine tK 11 (v:=?_) 11 rfl rfl (Or.inl ⟨by rfl,?yy⟩) hHeld ?_
      case yy =>
       intro w' hSw
       try dsimp only at hSw
       go_simp<;>with_reducible rfl
      try simp only [Act.put,sL]
      refine tK 12 (v:=?_) 12 rfl rfl (Or.inl ⟨by rfl,?yy⟩) hHeld ?_
      case yy =>
       intro w' hSw
       try dsimp only at hSw
       go_simp<;>with_reducible rfl
      try simp only [Act.put,sL]
      refine wpAnyH_done (by kernel_rfl) ?_ _
      simp only [OnlyN]
      rename_i hmeet
      refine hmeet _ _ ?_
      gi_meet
      exact ⟨_,C1,m1,C2,m2,rfl,rfl,rfl,lh ⟨HG.out.2.2,(HG.go bB).out.1.set5 _ _ _ _ _,⟨(HRT.go bB).out.1.ch (ch_set5 (K:=fun _=>True) trivial (HG.go bB).out.2.1 ns_bool ns_slice ns_bool ns_slice _),(HRT.go bB).out.2.ch (ch_set5 (K:=fun _=>True) trivial (HG.go bB).out.2.1 ns_bool ns_slice ns_bool ns_slice _)⟩,below_set5 (HQ.go bB).out.2.2.2 HG.out.2.2 _ _ _ _ _⟩⟩
    ·skip
     go_simp
     skip
     clear hHeld
     refine hK.out _ _ ?hs1 (fun hHeld=>?_)
     case hs1=>exact HKS.out _ (HQ.go bB).out
     clear hK K
     try simp only [Act.put,sL]
     first|refine al_newH (s:=W.heap.size) (cs:=[.bool false,.slice none 0 0,.bool false,.slice none 0 0,.bool false]) (ns5 ns_bool ns_slice ns_bool ns_slice ns_bool) ?hsz ?_|refine al_newD (s:=W.heap.size) (cs:=[.bool false,.slice none 0 0,.bool false,.slice none 0 0,.bool false]) (ns5 ns_bool ns_slice ns_bool ns_slice ns_bool) ?hsz ?_
     case hsz=>exact (HQ.go bB).out.2.2.2.size
     intro HG
     try simp only [World.size_alloc] at HG
     refine wpAnyH_ready (rs:=[1]) (by kernel_rfl) (by simp) ?_
     refine AllReadyH.cons rfl (fun K hK=>?_) AllReadyH.nil
     go_simp
     (go_at_call 29;with_reducible refine (HLE.out _).mono ?_;rintro x w5 ⟨rfl,hb5⟩;replace HQ:=HQ.go2 bB hb5;(try replace HG:=HG.go2 bB hb5);clear hb5)
     clear hHeld
     refine hK.out _ _ ?hs1 (fun hHeld=>?_)
     case hs1=>exact HKS.out _ (HQ.go bB).out
     clear hK K
     try simp only [Act.put,sL]
     refine wpAnyH_ready (rs:=[3]) (by kernel_rfl) (by simp) ?_
     refine AllReadyH.cons rfl (fun K hK=>?_) AllReadyH.nil
     go_simp
     (go_at_call 29;with_reducible refine (HLF.out _).mono ?_;rintro x w6 ⟨rfl,hb6⟩;replace HQ:=HQ.go2 bB hb6;(try replace HG:=HG.go2 bB hb6);clear hb6)
     clear hHeld
     refine hK.out _ _ ?hs1 (fun hHeld=>?_)
     case hs1=>exact HKS.out _ (HQ.go bB).out
     clear hK K
     try simp only [Act.put,sL]
     refine wpAnyH_ready (rs:=[4]) (by kernel_rfl) (by simp) ?_
     refine AllReadyH.cons rfl (fun K hK=>?_) AllReadyH.nil
     go_simp
     (go_at_call 28;refine (HCH.out _ (HQ.go bB).out.2.1 (HQ.go bB).out.2.2.1).mono ?_;rintro x w7 ⟨C1,m1,C2,m2,rfl,hrt,hb7⟩;replace HQ:=HQ.go2 bB hb7;(try replace HG:=HG.go2 bB hb7);have HRT:At (fun V=>RT V C1 m1 (chPL e f).1∧RT V C2 m2 (chPR e f).1) w7:=⟨fun X Y h hb=>⟨h.1.below hb,h.2.below hb⟩,hrt⟩;clear hb7 hrt)
     clear hHeld
     refine hK.out _ _ ?hs1 (fun hHeld=>?_)
     case hs1=>exact HKS.out _ (HQ.go bB).out
     clear hK K
     try simp only [Act.put,sL]
     refine tK 5 (v:=?_) 32 rfl rfl (Or.inl ⟨by rfl,?yy⟩) hHeld ?_
     case yy =>
      intro w' hSw
      try dsimp only at hSw
      go_simp<;>with_reducible rfl
     try simp only [Act.put,sL]
     refine tK 6 (v:=?_) 38 rfl rfl (Or.inl ⟨by rfl,?yy⟩) hHeld ?_
     case yy =>
      intro w' hSw
      try dsimp only at hSw
      go_simp<;>with_reducible rfl
     try simp only [Act.put,sL]
     refine tK 7 (v:=?_) 39 rfl rfl (Or.inl ⟨by rfl,?yy⟩) hHeld ?_
     case yy =>
      intro w' hSw
      try dsimp only at hSw
      go_simp<;>with_reducible rfl
     try simp only [Act.put,sL]
     refine tK 8 (v:=?_) 40 rfl rfl (Or.inl ⟨by rfl,?yy⟩) hHeld ?_
     case yy =>
      intro w' hSw
      try dsimp only at hSw
      go_simp<;>with_reducible rfl
     try simp only [Act.put,sL]
     refine wpAnyH_ready (rs:=[10]) (by kernel_rfl) (by simp) ?_
     refine AllReadyH.cons rfl (fun K hK=>?_) AllReadyH.nil
     obtain ⟨t0,t1,t2,t3,t4⟩:=(HG.go bB).out.1.c5
     have f0:=(HG.go bB).out.1.2.1 0
     have f1:=(HG.go bB).out.1.2.1 1
     have f2:=(HG.go bB).out.1.2.1 2
     have f3:=(HG.go bB).out.1.2.1 3
     have f4:=(HG.go bB).out.1.2.1 4
     have tl:=(HG.go bB).out.1.2.2
     go_simp
     clear hHeld
     refine hK.out _ _ ?hs1 (fun hHeld=>?_)
     case hs1=>exact HK5.out _ _ _ _ _ _ _ (HQ.go bB).out (Nat.ne_of_gt (Nat.lt_of_lt_of_le hBxl HG.out.2.2)) (Nat.ne_of_gt (Nat.lt_of_lt_of_le hByl HG.out.2.2))
     clear hK K
     try simp only [Act.put,sL]
     refine tK 11 (v:=?_) 11 rfl rfl (Or.inl ⟨by rfl,?yy⟩) hHeld ?_
     case yy =>
      intro w' hSw
      try dsimp only at hSw
      go_simp<;>with_reducible rfl
     try simp only [Act.put,sL]
     refine tK 12 (v:=?_) 12 rfl rfl (Or.inl ⟨by rfl,?yy⟩) hHeld ?_
     case yy =>
      intro w' hSw
      try dsimp only at hSw
      go_simp<;>with_reducible rfl
     try simp only [Act.put,sL]
     refine wpAnyH_done (by kernel_rfl) ?_ _
     simp only [OnlyN]
     rename_i hmeet
     refine hmeet _ _ ?_
     gi_meet
     exact ⟨_,C1,m1,C2,m2,rfl,rfl,rfl,lh ⟨HG.out.2.2,(HG.go bB).out.1.set5 _ _ _ _ _,⟨(HRT.go bB).out.1.ch (ch_set5 (K:=fun _=>True) trivial (HG.go bB).out.2.1 ns_bool ns_slice ns_bool ns_slice _),(HRT.go bB).out.2.ch (ch_set5 (K:=fun _=>True) trivial (HG.go bB).out.2.1 ns_bool ns_slice ns_bool ns_slice _)⟩,below_set5 (HQ.go bB).out.2.2.2 HG.out.2.2 _ _ _ _ _⟩⟩
   case rest =>
    obtain ⟨g,C1,m1,C2,m2,rfl,rfl,rfl,HC⟩:=hcut
    clear HCH HLF HKS HK5 y0 y1 y2 y3 y4 z0 z1 z2 z3 z4
    have hcl:W.heap.size≤wc.heap.size:=HC.out.2.2.2.size
    have x4:=(H4.out.below HC.out.2.2.2).1.c1
    have x5:=(H5.out.below HC.out.2.2.2).1.c1
    have p4:=(H4.out.below HC.out.2.2.2).1.2.1 0
    have p5:=(H5.out.below HC.out.2.2.2).1.2.1 0
    by_cases hn:chN e f=0
    ·rw [hn]
     cases ho:chO' e f with
     | false =>
      have HGB:Hid (cmpB e f=false):=lh (by unfold cmpB;rw [hn,ho];rfl)
      have HGS:Hid (cmpS (cmpC a b (pre.map (·.1))) e f=cmpC a b (pre.map (·.1))):=lh (by unfold cmpS;rw [ho];rfl)
      clear HQ
      gi_wp2_with fail
      exact cm_on HB.out hs H4.out H5.out HN.out HKC.out HPR.out HGB.out HC.out.2.2.2 HGS.out
     | true =>
      have HPS:=lh (HPZ.out ho)
      have hh1:e.2.2.length≤64:=HPE.out.1.2.2.2
      have hh2:f.2.2.length≤64:=HPF.out.1.2.2.2
      obtain ⟨w4,rfl⟩:∃ w4,w4=wc:=⟨wc,rfl⟩
      have HW:=lh (HQ.go HC.out.2.2.2).out
      clear HQ
      have HCL:=lh (cloneP_any H n e.2.2 w4 HW.out.2.1.1.2.2 (by omega))
      have kh:w4.cell? ⟨Bx,4,none⟩=some (.slice H e.2.2.length n):=HW.out.1.1.1 4 _ rfl
      gi_wp2_with (refine ⟨trivial,?_⟩;gi_at_call 30;refine (CallsIn.inRound l (callsIn_wide.2 HCL.out)).mono ?_;rintro x9 w5 ⟨v5,rfl,hso,hb5⟩;obtain ⟨A5,n5,c5,rfl,hn5⟩:=so_shape hso;have HSO5:=lh hso;have HB5:=lh hb5;have kf:w5.cell? ⟨By,4,none⟩=some (.slice H' f.2.2.length n'):=(HW.out.1.2.below hb5).1 4 _ rfl;clear hso hb5)
      clear HCL kh kf x4 x5 p4 p5
      gi_loopw [13,51] (fun hv i wr=>∃ (k n7 c7:Nat) (A7:Option Addr),k≤f.2.2.length∧i=.int .i64 k∧hv=.slice A7 n7 c7∧Hid (Below w4.heap.size w4 wr)∧Hid (n7=(cmH e f k).length)∧Hid (SO elP wr w4.heap.size 45 (.slice A7 n7 c7) kN (cmH e f k))∧Hid (∀ j q,j<k→f.2.2[j]? = some q→nrE e.2.1 e.1 q=0)) (fun _ i _=>f.2.2.length-(intOf i).toNat)
      case atStart=>exact ⟨0,n5,c5,A5,Nat.zero_le _,rfl,rfl,HB5,lh (by rw [cmH_zero];exact hn5.out),lh (by rw [cmH_zero];exact HSO5.out),lh (fun j q hj=>by omega)⟩
      case round =>
       clear HSO5 HB5 hn5
       obtain ⟨k,n7,c7,A7,hk,rfl,rfl,HBL,HN7,HSO,HER⟩:=hrel
       have hwr:w4.heap.size≤wr.heap.size:=HBL.out.size
       by_cases hlt:k<f.2.2.length
       ·obtain ⟨p,hp⟩:∃ p,f.2.2[k]? = some p:=⟨_,gE hlt⟩
        obtain ⟨b5,o5,rfl,hb5,hc5⟩:=((HW.out.2.1.2.below HBL.out).2.2).2.2 (by omega)
        obtain ⟨C,n9,x0,x1,x2⟩:=hc5 k p hp
        have HP:=lh hp
        have hok:=HPF.out.1.2.2.1 p (mG hp)
        have hpz:=HPF.out.2.2.2 p (mG hp)
        have HNR:=lh (fun V (h:EG V e A c B d H n) (k3:RT V C n9 p.1) (hm:ML V)=>narR_P (l:=e.2.1) (r:=e.1) (h:=p) V h.1 h.2.1 k3 hm (rlOk_turn.1 HPE.out.1.1) (szN_up HPE.out.2.2.1 (by omega)) (szN_up HPE.out.2.1 (by omega)) (szN_up hpz (by omega)) HPE.out.1.1.okr hok)
        have HSN:=lh (cmH_succ (e:=e) (f:=f) hp)
        have HQ:At (fun V=>(BX V Bx [.slice A e.1.1.length c,.bool e.1.2,.slice B e.2.1.1.length d,.bool e.2.1.2,.slice H e.2.2.length n]∧BX V wr.heap.size [.slice C p.1.length n9,.bool p.2])∧(EG V e A c B d H n∧RT V C n9 p.1)∧ML V∧Below wr.heap.size wr V) (wr.alloc (.cells #[.slice C p.1.length n9,.bool p.2] 45)) :=
         ⟨fun X Y h hb=>⟨⟨h.1.1.below hb,h.1.2.below hb⟩,⟨h.2.1.1.below hb,h.2.1.2.below hb⟩,h.2.2.1.below hb,go3 h.2.2.2 hb⟩,⟨(HW.out.1.1.below HBL.out).below (ba _ _),BX.new wr _ _ rfl⟩,⟨(HW.out.2.1.1.below HBL.out).below (ba _ _),x2.below (ba _ _)⟩,(HW.out.2.2.1.below HBL.out).below (ba _ _),ba _ _⟩
        have HKS:Hid (∀ V,((BX V Bx [.slice A e.1.1.length c,.bool e.1.2,.slice B e.2.1.1.length d,.bool e.2.1.2,.slice H e.2.2.length n]∧BX V wr.heap.size [.slice C p.1.length n9,.bool p.2])∧(EG V e A c B d H n∧RT V C n9 p.1)∧ML V∧Below wr.heap.size wr V)→(V.cell? ⟨Bx,0,none⟩=some (.slice A e.1.1.length c)∧V.cell? ⟨Bx,1,none⟩=some (.bool e.1.2)∧V.cell? ⟨Bx,2,none⟩=some (.slice B e.2.1.1.length d)∧V.cell? ⟨Bx,3,none⟩=some (.bool e.2.1.2)∧V.cell? ⟨Bx,4,none⟩=some (.slice H e.2.2.length n))∧(V.cell? ⟨wr.heap.size,0,none⟩=some (.slice C p.1.length n9)∧V.cell? ⟨wr.heap.size,1,none⟩=some (.bool p.2))):=lh (fun V h=>⟨h.1.1.c5,h.1.2.c2⟩)
        have HK5:Hid (∀ V g a1 a2 a3 a4 a5,((BX V Bx [.slice A e.1.1.length c,.bool e.1.2,.slice B e.2.1.1.length d,.bool e.2.1.2,.slice H e.2.2.length n]∧BX V wr.heap.size [.slice C p.1.length n9,.bool p.2])∧(EG V e A c B d H n∧RT V C n9 p.1)∧ML V∧Below wr.heap.size wr V)→g≠Bx→g≠wr.heap.size→((((((V.setCell ⟨g,0,none⟩ a1).setCell ⟨g,1,none⟩ a2).setCell ⟨g,2,none⟩ a3).setCell ⟨g,3,none⟩ a4).setCell ⟨g,4,none⟩ a5).cell? ⟨Bx,0,none⟩=some (.slice A e.1.1.length c)∧(((((V.setCell ⟨g,0,none⟩ a1).setCell ⟨g,1,none⟩ a2).setCell ⟨g,2,none⟩ a3).setCell ⟨g,3,none⟩ a4).setCell ⟨g,4,none⟩ a5).cell? ⟨Bx,1,none⟩=some (.bool e.1.2)∧(((((V.setCell ⟨g,0,none⟩ a1).setCell ⟨g,1,none⟩ a2).setCell ⟨g,2,none⟩ a3).setCell ⟨g,3,none⟩ a4).setCell ⟨g,4,none⟩ a5).cell? ⟨Bx,2,none⟩=some (.slice B e.2.1.1.length d)∧(((((V.setCell ⟨g,0,none⟩ a1).setCell ⟨g,1,none⟩ a2).setCell ⟨g,2,none⟩ a3).setCell ⟨g,3,none⟩ a4).setCell ⟨g,4,none⟩ a5).cell? ⟨Bx,3,none⟩=some (.bool e.2.1.2)∧(((((V.setCell ⟨g,0,none⟩ a1).setCell ⟨g,1,none⟩ a2).setCell ⟨g,2,none⟩ a3).setCell ⟨g,3,none⟩ a4).setCell ⟨g,4,none⟩ a5).cell? ⟨Bx,4,none⟩=some (.slice H e.2.2.length n))∧((((((V.setCell ⟨g,0,none⟩ a1).setCell ⟨g,1,none⟩ a2).setCell ⟨g,2,none⟩ a3).setCell ⟨g,3,none⟩ a4).setCell ⟨g,4,none⟩ a5).cell? ⟨wr.heap.size,0,none⟩=some (.slice C p.1.length n9)∧(((((V.setCell ⟨g,0,none⟩ a1).setCell ⟨g,1,none⟩ a2).setCell ⟨g,2,none⟩ a3).setCell ⟨g,3,none⟩ a4).setCell ⟨g,4,none⟩ a5).cell? ⟨wr.heap.size,1,none⟩=some (.bool p.2))):=lh (fun V g a1 a2 a3 a4 a5 h h1 h2=>by
         obtain ⟨⟨e0,e1,e2,e3,e4⟩,⟨e5,e6⟩⟩:=HKS.out V h
         rw [set5_other _ _ _ _ _ (Ne.symm h1),set5_other _ _ _ _ _ (Ne.symm h1),set5_other _ _ _ _ _ (Ne.symm h1),set5_other _ _ _ _ _ (Ne.symm h1),set5_other _ _ _ _ _ (Ne.symm h1),set5_other _ _ _ _ _ (Ne.symm h2),set5_other _ _ _ _ _ (Ne.symm h2)]
         exact ⟨⟨e0,e1,e2,e3,e4⟩,⟨e5,e6⟩⟩)
        have hBxr:Bx<wr.heap.size:=Nat.lt_of_lt_of_le hBxl (Nat.le_trans hcl hwr)
        clear hc5 hp x2
        gi_upto_region 16 with fail
        clear x0 x1
        gi_cut [16,17,18] from 81 (fun s16 s17 s18 wx=>∃ (g7:Nat) (C5:Option Addr) (m5:Nat) (C6:Option Addr) (m6:Nat),s16=.pointer (some ⟨g7,0,none⟩)∧s17=.bool (nrO e.2.1 e.1 p)∧s18=.int .i64 (nrE e.2.1 e.1 p)∧Hid (wr.heap.size≤g7∧BX wx g7 [.bool false,.slice C5 (nrR e.2.1 e.1 p).1.length m5,.bool (nrR e.2.1 e.1 p).2,.slice C6 (nrL e.2.1 e.1 p).1.length m6,.bool (nrL e.2.1 e.1 p).2]∧RT wx C5 m5 (nrR e.2.1 e.1 p).1∧Below wr.heap.size wr wx))
        case first =>
         refine wpIn_region_held (S:=fun V=>(V.cell? ⟨Bx,0,none⟩=some (.slice A e.1.1.length c)∧V.cell? ⟨Bx,1,none⟩=some (.bool e.1.2)∧V.cell? ⟨Bx,2,none⟩=some (.slice B e.2.1.1.length d)∧V.cell? ⟨Bx,3,none⟩=some (.bool e.2.1.2)∧V.cell? ⟨Bx,4,none⟩=some (.slice H e.2.2.length n))∧(V.cell? ⟨wr.heap.size,0,none⟩=some (.slice C p.1.length n9)∧V.cell? ⟨wr.heap.size,1,none⟩=some (.bool p.2))) (by kernel_rfl) (by kernel_rfl) ?hs0 (fun hHeld=>?_)
         case hs0=>exact HKS.out _ (HQ.go (by with_reducible apply Below.drew;with_reducible exact Below.refl _ _)).out
         refine tK 0 (v:=?_) 56 rfl rfl (Or.inl ⟨by rfl,?yy⟩) hHeld ?_
         case yy =>
          intro w' hSw
          try dsimp only at hSw
          go_simp<;>with_reducible rfl
         try simp only [Act.put,sL]
         refine tK 2 (v:=?_) 58 rfl rfl (Or.inl ⟨by rfl,?yy⟩) hHeld ?_
         case yy =>
          intro w' hSw
          try dsimp only at hSw
          go_simp<;>with_reducible rfl
         try simp only [Act.put,sL]
         refine wpAnyH_ready (rs:=[1,8]) (by kernel_rfl) (by simp) ?_
         refine AllReadyH.cons rfl (fun K hK=>?_) (AllReadyH.cons rfl (fun K hK=>?_) AllReadyH.nil)
         ·skip
          go_simp
          (go_at_call 29;with_reducible refine (HLE.out _).mono ?_;rintro x w5 ⟨rfl,hb5⟩;replace HQ:=HQ.go2 bB hb5;(try replace HG:=HG.go2 bB hb5);clear hb5)
          clear hHeld
          refine hK.out _ _ ?hs1 (fun hHeld=>?_)
          case hs1=>exact HKS.out _ (HQ.go bB).out
          clear hK K
          try simp only [Act.put,sL]
          refine wpAnyH_ready (rs:=[3,8]) (by kernel_rfl) (by simp) ?_
          refine AllReadyH.cons rfl (fun K hK=>?_) (AllReadyH.cons rfl (fun K hK=>?_) AllReadyH.nil)
          ·skip
           go_simp
           (go_at_call 31;refine (HNR.out _ (HQ.go bB).out.2.1.1 (HQ.go bB).out.2.1.2 (HQ.go bB).out.2.2.1).mono ?_;rintro x w7 ⟨C5,m5,C6,m6,rfl,hrt,hb7⟩;replace HQ:=HQ.go2 bB hb7;(try replace HG:=HG.go2 bB hb7);have HRT:At (fun V=>RT V C5 m5 (nrR e.2.1 e.1 p).1) w7:=⟨kept_rt C5 m5 _,hrt.1⟩;clear hb7 hrt)
           clear hHeld
           refine hK.out _ _ ?hs1 (fun hHeld=>?_)
           case hs1=>exact HKS.out _ (HQ.go bB).out
           clear hK K
           try simp only [Act.put,sL]
           refine tK 4 (v:=?_) 55 rfl rfl (Or.inl ⟨by rfl,?yy⟩) hHeld ?_
           case yy =>
            intro w' hSw
            try dsimp only at hSw
            go_simp<;>with_reducible rfl
           try simp only [Act.put,sL]
           refine tK 5 (v:=?_) 60 rfl rfl (Or.inl ⟨by rfl,?yy⟩) hHeld ?_
           case yy =>
            intro w' hSw
            try dsimp only at hSw
            go_simp<;>with_reducible rfl
           try simp only [Act.put,sL]
           refine tK 6 (v:=?_) 61 rfl rfl (Or.inl ⟨by rfl,?yy⟩) hHeld ?_
           case yy =>
            intro w' hSw
            try dsimp only at hSw
            go_simp<;>with_reducible rfl
           try simp only [Act.put,sL]
           refine tK 7 (v:=?_) 62 rfl rfl (Or.inl ⟨by rfl,?yy⟩) hHeld ?_
           case yy =>
            intro w' hSw
            try dsimp only at hSw
            go_simp<;>with_reducible rfl
           try simp only [Act.put,sL]
           refine wpAnyH_ready (rs:=[8]) (by kernel_rfl) (by simp) ?_
           refine AllReadyH.cons rfl (fun K hK=>?_) AllReadyH.nil
           go_simp
           skip
           clear hHeld
           refine hK.out _ _ ?hs1 (fun hHeld=>?_)
           case hs1=>exact HKS.out _ (HQ.go bB).out
           clear hK K
           try simp only [Act.put,sL]
           first|refine al_newH (s:=wr.heap.size+1) (cs:=[.bool false,.slice none 0 0,.bool false,.slice none 0 0,.bool false]) (ns5 ns_bool ns_slice ns_bool ns_slice ns_bool) ?hsz ?_|refine al_newD (s:=wr.heap.size+1) (cs:=[.bool false,.slice none 0 0,.bool false,.slice none 0 0,.bool false]) (ns5 ns_bool ns_slice ns_bool ns_slice ns_bool) ?hsz ?_
           case hsz=>exact (HQ.go bB).out.1.2.2.2
           intro HG
           try simp only [World.size_alloc] at HG
           refine wpAnyH_ready (rs:=[9]) (by kernel_rfl) (by simp) ?_
           refine AllReadyH.cons rfl (fun K hK=>?_) AllReadyH.nil
           obtain ⟨t0,t1,t2,t3,t4⟩:=(HG.go bB).out.1.c5
           have f0:=(HG.go bB).out.1.2.1 0
           have f1:=(HG.go bB).out.1.2.1 1
           have f2:=(HG.go bB).out.1.2.1 2
           have f3:=(HG.go bB).out.1.2.1 3
           have f4:=(HG.go bB).out.1.2.1 4
           have tl:=(HG.go bB).out.1.2.2
           go_simp
           clear hHeld
           refine hK.out _ _ ?hs1 (fun hHeld=>?_)
           case hs1=>exact HKS.out _ (HQ.go bB).out
           clear hK K
           try simp only [Act.put,sL]
           refine tK 10 (v:=?_) 17 rfl rfl (Or.inl ⟨by rfl,?yy⟩) hHeld ?_
           case yy =>
            intro w' hSw
            try dsimp only at hSw
            go_simp<;>with_reducible rfl
           try simp only [Act.put,sL]
           refine tK 11 (v:=?_) 18 rfl rfl (Or.inl ⟨by rfl,?yy⟩) hHeld ?_
           case yy =>
            intro w' hSw
            try dsimp only at hSw
            go_simp<;>with_reducible rfl
           try simp only [Act.put,sL]
           refine wpAnyH_done (by kernel_rfl) ?_ _
           simp only [OnlyN]
           rename_i hmeet
           refine hmeet _ _ ?_
           gi_meet
           exact ⟨_,C5,m5,C6,m6,rfl,rfl,rfl,lh ⟨Nat.le_of_succ_le HG.out.2.2,BX.new _ [_,_,_,_,_] _ rfl,(HRT.go bB).out,(HQ.go bB).out.2.2.2⟩⟩
          ·skip
           go_simp
           skip
           clear hHeld
           refine hK.out _ _ ?hs1 (fun hHeld=>?_)
           case hs1=>exact HKS.out _ (HQ.go bB).out
           clear hK K
           try simp only [Act.put,sL]
           first|refine al_newH (s:=wr.heap.size+1) (cs:=[.bool false,.slice none 0 0,.bool false,.slice none 0 0,.bool false]) (ns5 ns_bool ns_slice ns_bool ns_slice ns_bool) ?hsz ?_|refine al_newD (s:=wr.heap.size+1) (cs:=[.bool false,.slice none 0 0,.bool false,.slice none 0 0,.bool false]) (ns5 ns_bool ns_slice ns_bool ns_slice ns_bool) ?hsz ?_
           case hsz=>exact (HQ.go bB).out.1.2.2.2
           intro HG
           try simp only [World.size_alloc] at HG
           refine wpAnyH_ready (rs:=[3]) (by kernel_rfl) (by simp) ?_
           refine AllReadyH.cons rfl (fun K hK=>?_) AllReadyH.nil
           go_simp
           (go_at_call 31;refine (HNR.out _ (HQ.go bB).out.2.1.1 (HQ.go bB).out.2.1.2 (HQ.go bB).out.2.2.1).mono ?_;rintro x w7 ⟨C5,m5,C6,m6,rfl,hrt,hb7⟩;replace HQ:=HQ.go2 bB hb7;(try replace HG:=HG.go2 bB hb7);have HRT:At (fun V=>RT V C5 m5 (nrR e.2.1 e.1 p).1) w7:=⟨kept_rt C5 m5 _,hrt.1⟩;clear hb7 hrt)
           clear hHeld
           refine hK.out _ _ ?hs1 (fun hHeld=>?_)
           case hs1=>exact HKS.out _ (HQ.go bB).out
           clear hK K
           try simp only [Act.put,sL]
           refine tK 4 (v:=?_) 55 rfl rfl (Or.inl ⟨by rfl,?yy⟩) hHeld ?_
           case yy =>
            intro w' hSw
            try dsimp only at hSw
            go_simp<;>with_reducible rfl
           try simp only [Act.put,sL]
           refine tK 5 (v:=?_) 60 rfl rfl (Or.inl ⟨by rfl,?yy⟩) hHeld ?_
           case yy =>
            intro w' hSw
            try dsimp only at hSw
            go_simp<;>with_reducible rfl
           try simp only [Act.put,sL]
           refine tK 6 (v:=?_) 61 rfl rfl (Or.inl ⟨by rfl,?yy⟩) hHeld ?_
           case yy =>
            intro w' hSw
            try dsimp only at hSw
            go_simp<;>with_reducible rfl
           try simp only [Act.put,sL]
           refine tK 7 (v:=?_) 62 rfl rfl (Or.inl ⟨by rfl,?yy⟩) hHeld ?_
           case yy =>
            intro w' hSw
            try dsimp only at hSw
            go_simp<;>with_reducible rfl
           try simp only [Act.put,sL]
           refine wpAnyH_ready (rs:=[9]) (by kernel_rfl) (by simp) ?_
           refine AllReadyH.cons rfl (fun K hK=>?_) AllReadyH.nil
           obtain ⟨t0,t1,t2,t3,t4⟩:=(HG.go bB).out.1.c5
           have f0:=(HG.go bB).out.1.2.1 0
           have f1:=(HG.go bB).out.1.2.1 1
           have f2:=(HG.go bB).out.1.2.1 2
           have f3:=(HG.go bB).out.1.2.1 3
           have f4:=(HG.go bB).out.1.2.1 4
           have tl:=(HG.go bB).out.1.2.2
           go_simp
           clear hHeld
           refine hK.out _ _ ?hs1 (fun hHeld=>?_)
           case hs1=>exact HK5.out _ _ _ _ _ _ _ (HQ.go bB).out (Nat.ne_of_gt (Nat.lt_of_lt_of_le hBxr (Nat.le_of_succ_le HG.out.2.2))) (Nat.ne_of_gt HG.out.2.2)
           clear hK K
           try simp only [Act.put,sL]
           refine tK 10 (v:=?_) 17 rfl rfl (Or.inl ⟨by rfl,?yy⟩) hHeld ?_
           case yy =>
            intro w' hSw
            try dsimp only at hSw
            go_simp<;>with_reducible rfl
           try simp only [Act.put,sL]
           refine tK 11 (v:=?_) 18 rfl rfl (Or.inl ⟨by rfl,?yy⟩) hHeld ?_
           case yy =>
            intro w' hSw
            try dsimp only at hSw
            go_simp<;>with_reducible rfl
           try simp only [Act.put,sL]
           refine wpAnyH_done (by kernel_rfl) ?_ _
           simp only [OnlyN]
           rename_i hmeet
           refine hmeet _ _ ?_
           gi_meet
           exact ⟨_,C5,m5,C6,m6,rfl,rfl,rfl,lh ⟨Nat.le_of_succ_le HG.out.2.2,(HG.go bB).out.1.set5 _ _ _ _ _,(HRT.go bB).out.ch (ch_set5 (K:=fun _=>True) trivial (HG.go bB).out.2.1 ns_bool ns_slice ns_bool ns_slice _),below_set5 (HQ.go bB).out.2.2.2 (Nat.le_of_succ_le HG.out.2.2) _ _ _ _ _⟩⟩
         ·skip
          go_simp
          skip
          clear hHeld
          refine hK.out _ _ ?hs1 (fun hHeld=>?_)
          case hs1=>exact HKS.out _ (HQ.go bB).out
          clear hK K
          try simp only [Act.put,sL]
          first|refine al_newH (s:=wr.heap.size+1) (cs:=[.bool false,.slice none 0 0,.bool false,.slice none 0 0,.bool false]) (ns5 ns_bool ns_slice ns_bool ns_slice ns_bool) ?hsz ?_|refine al_newD (s:=wr.heap.size+1) (cs:=[.bool false,.slice none 0 0,.bool false,.slice none 0 0,.bool false]) (ns5 ns_bool ns_slice ns_bool ns_slice ns_bool) ?hsz ?_
          case hsz=>exact (HQ.go bB).out.1.2.2.2
          intro HG
          try simp only [World.size_alloc] at HG
          refine wpAnyH_ready (rs:=[1]) (by kernel_rfl) (by simp) ?_
          refine AllReadyH.cons rfl (fun K hK=>?_) AllReadyH.nil
          go_simp
          (go_at_call 29;with_reducible refine (HLE.out _).mono ?_;rintro x w5 ⟨rfl,hb5⟩;replace HQ:=HQ.go2 bB hb5;(try replace HG:=HG.go2 bB hb5);clear hb5)
          clear hHeld
          refine hK.out _ _ ?hs1 (fun hHeld=>?_)
          case hs1=>exact HKS.out _ (HQ.go bB).out
          clear hK K
          try simp only [Act.put,sL]
          refine wpAnyH_ready (rs:=[3]) (by kernel_rfl) (by simp) ?_
          refine AllReadyH.cons rfl (fun K hK=>?_) AllReadyH.nil
          go_simp
          (go_at_call 31;refine (HNR.out _ (HQ.go bB).out.2.1.1 (HQ.go bB).out.2.1.2 (HQ.go bB).out.2.2.1).mono ?_;rintro x w7 ⟨C5,m5,C6,m6,rfl,hrt,hb7⟩;replace HQ:=HQ.go2 bB hb7;(try replace HG:=HG.go2 bB hb7);have HRT:At (fun V=>RT V C5 m5 (nrR e.2.1 e.1 p).1) w7:=⟨kept_rt C5 m5 _,hrt.1⟩;clear hb7 hrt)
          clear hHeld
          refine hK.out _ _ ?hs1 (fun hHeld=>?_)
          case hs1=>exact HKS.out _ (HQ.go bB).out
          clear hK K
          try simp only [Act.put,sL]
          refine tK 4 (v:=?_) 55 rfl rfl (Or.inl ⟨by rfl,?yy⟩) hHeld ?_
          case yy =>
           intro w' hSw
           try dsimp only at hSw
           go_simp<;>with_reducible rfl
          try simp only [Act.put,sL]
          refine tK 5 (v:=?_) 60 rfl rfl (Or.inl ⟨by rfl,?yy⟩) hHeld ?_
          case yy =>
           intro w' hSw
           try dsimp only at hSw
           go_simp<;>with_reducible rfl
          try simp only [Act.put,sL]
          refine tK 6 (v:=?_) 61 rfl rfl (Or.inl ⟨by rfl,?yy⟩) hHeld ?_
          case yy =>
           intro w' hSw
           try dsimp only at hSw
           go_simp<;>with_reducible rfl
          try simp only [Act.put,sL]
          refine tK 7 (v:=?_) 62 rfl rfl (Or.inl ⟨by rfl,?yy⟩) hHeld ?_
          case yy =>
           intro w' hSw
           try dsimp only at hSw
           go_simp<;>with_reducible rfl
          try simp only [Act.put,sL]
          refine wpAnyH_ready (rs:=[9]) (by kernel_rfl) (by simp) ?_
          refine AllReadyH.cons rfl (fun K hK=>?_) AllReadyH.nil
          obtain ⟨t0,t1,t2,t3,t4⟩:=(HG.go bB).out.1.c5
          have f0:=(HG.go bB).out.1.2.1 0
          have f1:=(HG.go bB).out.1.2.1 1
          have f2:=(HG.go bB).out.1.2.1 2
          have f3:=(HG.go bB).out.1.2.1 3
          have f4:=(HG.go bB).out.1.2.1 4
          have tl:=(HG.go bB).out.1.2.2
          go_simp
          clear hHeld
          refine hK.out _ _ ?hs1 (fun hHeld=>?_)
          case hs1=>exact HK5.out _ _ _ _ _ _ _ (HQ.go bB).out (Nat.ne_of_gt (Nat.lt_of_lt_of_le hBxr (Nat.le_of_succ_le HG.out.2.2))) (Nat.ne_of_gt HG.out.2.2)
          clear hK K
          try simp only [Act.put,sL]
          refine tK 10 (v:=?_) 17 rfl rfl (Or.inl ⟨by rfl,?yy⟩) hHeld ?_
          case yy =>
           intro w' hSw
           try dsimp only at hSw
           go_simp<;>with_reducible rfl
          try simp only [Act.put,sL]
          refine tK 11 (v:=?_) 18 rfl rfl (Or.inl ⟨by rfl,?yy⟩) hHeld ?_
          case yy =>
           intro w' hSw
           try dsimp only at hSw
           go_simp<;>with_reducible rfl
          try simp only [Act.put,sL]
          refine wpAnyH_done (by kernel_rfl) ?_ _
          simp only [OnlyN]
          rename_i hmeet
          refine hmeet _ _ ?_
          gi_meet
          exact ⟨_,C5,m5,C6,m6,rfl,rfl,rfl,lh ⟨Nat.le_of_succ_le HG.out.2.2,(HG.go bB).out.1.set5 _ _ _ _ _,(HRT.go bB).out.ch (ch_set5 (K:=fun _=>True) trivial (HG.go bB).out.2.1 ns_bool ns_slice ns_bool ns_slice _),below_set5 (HQ.go bB).out.2.2.2 (Nat.le_of_succ_le HG.out.2.2) _ _ _ _ _⟩⟩
        case rest =>
         obtain ⟨g7,C5,m5,C6,m6,rfl,rfl,rfl,HC7⟩:=hcut
         clear HKS HK5 HNR HQ
         have hsz7:wr.heap.size≤wc.heap.size:=HC7.out.2.2.2.size
         have HLW:=lh (go3 HBL.out HC7.out.2.2.2)
         by_cases hne:nrE e.2.1 e.1 p=0
         ·rw [hne]
          have HER2:Hid (∀ j q,j<k+1→f.2.2[j]? = some q→nrE e.2.1 e.1 q=0):=lh (fun j q hj hq=>by
           rcases Nat.lt_or_ge j k with h1|h1
           ·exact HER.out j q h1 hq
           ·obtain rfl:j=k:=by omega
            rw [HP.out] at hq
            cases hq
            exact hne)
          clear hne HER
          cases hno:nrO e.2.1 e.1 p with
          | false =>
           have HSN2:Hid (cmH e f (k+1)=cmH e f k):=lh (by rw [HSN.out,hno];simp)
           clear hno
           gi_wp2_with fail
           exact ⟨⟨k+1,n7,c7,A7,by omega,by go_num,rfl,HLW,lh (by rw [HSN2.out];exact HN7.out),lh (by rw [HSN2.out];exact HSO.out.below HC7.out.2.2.2),HER2⟩,by simp [intOf];omega⟩
          | true =>
           have HSN2:Hid (cmH e f (k+1)=cmH e f k++[nrR e.2.1 e.1 p]):=lh (by rw [HSN.out,hno];simp)
           have hcl2:=cmH_len e f k
           have HOL:Hid (∀ j,(Value.slice A7 n7 c7).ownBlock=some j→w4.heap.size≤j∧j<wr.heap.size):=lh (fun j hj=>HSO.out.own j hj)
           obtain ⟨t0,t1,t2,t3,t4⟩:=HC7.out.2.1.c5
           have tl:=HC7.out.2.1.2.2
           clear hno
           gi_wp2_with (gi_at_builtin;refine wpListIn_append_so1 elP elPT rfl _ _ rfl w4.heap.size _ kN (cmH e f k) (nrR e.2.1 e.1 p) [.slice C5 (nrR e.2.1 e.1 p).1.length m5,.bool (nrR e.2.1 e.1 p).2] wc.heap.size 1 rfl rfl ((HSO.out.below HC7.out.2.2.2).below (ba _ _)) ⟨C5,m5,rfl,HC7.out.2.2.1.below (ba _ _)⟩ (cells_new _ [_,_] _ rfl) (by simp) (by omega) (by omega) (by omega) (by simp;omega) ?_;intro v8 w8 hso8 hg8 hor8;obtain ⟨A8,n8,c8,rfl,hn8l⟩:=so_shape hso8;have HSO8:=lh hso8;have HLW8:=lh ((go3 HLW.out (ba wc _)).grown hg8 (go3 HLW.out (ba wc _)).size (fun j hj=>(HOL.out j hj).1));clear hso8 hg8 hor8)
           exact ⟨⟨k+1,n8,c8,A8,by omega,by go_num,rfl,HLW8,lh (by rw [HSN2.out];exact hn8l.out),lh (by rw [HSN2.out];exact HSO8.out),HER2⟩,by simp [intOf];omega⟩
         ·have HGB:Hid (cmpB e f=true):=lh (by
           unfold cmpB
           rw [ho,nrsE_yes HP.out hne]
           simp)
          have hneb:(nrE e.2.1 e.1 p != 0)=true:=by simpa using hne
          have hV:Below W.heap.size W wc:=go3 HC.out.2.2.2 HLW.out
          have HV:=lh hV
          have x4:=(H4.out.below hV).1.c1
          have x5:=(H5.out.below hV).1.c1
          have p4:=(H4.out.below hV).1.2.1 0
          have p5:=(H5.out.below hV).1.2.1 0
          clear hV
          gi_wp2_with fail
          exact cm_ret HB.out H4.out H5.out HV.out HPR.out HGB.out
       ·obtain rfl:k=f.2.2.length:=by omega
        rw [cmH_all] at HN7 HSO
        have HNO:=lh (nrsE_no HER.out)
        clear HER
        obtain ⟨A9',c9',e9',hsv,-,hbl⟩:=HSO.out.read (fun j hj e=>by cases e)
        cases e9'
        have HBT:=lh hsv.bt
        have hV:Below W.heap.size W wr:=go3 HC.out.2.2.2 HBL.out
        have HV:=lh hV
        have hwrW:W.heap.size≤wr.heap.size:=hV.size
        obtain ⟨t0,t1,t2,t3,t4⟩:=(HC.out.2.1.below HBL.out).c5
        have hlH:(chH e f).length≤5000:=by rw [←cmH_all];have:=cmH_len e f f.2.2.length;omega
        have HPU:=lh (put2_any (cmpC a b (pre.map (·.1))).1 (cmpC a b (pre.map (·.1))).2 false (chPL e f) (chPR e f) (chH e f) C1 C2 A7 m1 m2 c7 w1.heap.size (w1.heap.size+1) A9 c9 wr (HKC.out.below HV.out) (Nat.lt_succ_self _) (by omega) (cmpC_len _ _ _) (HC.out.2.2.1.1.below HBL.out) (HC.out.2.2.1.2.below HBL.out) HBT.out HPS.out.1 HPS.out.2.1 HPS.out.2.2 hlH)
        clear hsv hbl hV HSO
        have x4:=(H4.out.below HV.out).1.c1
        have x5:=(H5.out.below HV.out).1.c1
        have p4:=(H4.out.below HV.out).1.2.1 0
        have p5:=(H5.out.below HV.out).1.2.1 0
        obtain ⟨L,HL⟩:∃ L,Hid (chH e f=L):=⟨_,lh rfl⟩
        rw [HL.out] at HPU ⊢
        cases hrd:rdE (chPL e f) L with
        | true =>
         have HGB:Hid (cmpB e f=true):=lh (by
          unfold cmpB
          rw [ho,HL.out,hrd]
          simp)
         have HPU2:=lh (HPU.out.mono (R':=fun x w'=>x=.returned (.int .i64 72)∧CmK w W w') (fun x w' h=>by
          obtain ⟨h1,A8,c8,h2,h3,h4,h5⟩:=h
          rw [putE_ne hrd] at h1
          exact ⟨h1,CmK.of HB.out HV.out H4.out H5.out HKC.out h2 h3 h4 h5 (by omega)⟩))
         clear HPU hrd x4 x5 p4 p5
         gi_wp2_with (refine ⟨trivial,?_⟩;gi_at_call 25;refine (CallsIn.inRound l (callsIn_wide.2 HPU2.out)).mono ?_;rintro x9 w9 ⟨rfl,hcm⟩;have HCM:=lh hcm;have x4:=hcm.1.1.c1;have x5:=hcm.2.1.1.c1;have p4:=hcm.1.1.2.1 0;have p5:=hcm.2.1.1.2.1 0;clear hcm)
         exact cm_ret2 HCM.out HPR.out HGB.out
        | false =>
         have HGB:Hid (cmpB e f=false):=lh (by
          unfold cmpB
          rw [hn,ho,HL.out,HNO.out,hrd]
          rfl)
         have HGS:Hid (cmpS (cmpC a b (pre.map (·.1))) e f=putC (cmpC a b (pre.map (·.1))) (chPL e f) (chPR e f) L):=lh (by unfold cmpS;rw [if_pos ho,HL.out])
         have HPU2:=lh (HPU.out.mono (R':=fun x w'=>x=.returned (.int .i64 0)∧RetPut3 wr A9 c9 w1.heap.size (w1.heap.size+1) (cmpC a b (pre.map (·.1))) (chPL e f) (chPR e f) L w') (fun x w' h=>by
          obtain ⟨h1,h2⟩:=h
          rw [putE_eq hrd] at h1
          exact ⟨h1,h2⟩))
         clear HPU hrd x4 x5 p4 p5
         gi_wp2_with (refine ⟨trivial,?_⟩;gi_at_call 25;refine (CallsIn.inRound l (callsIn_wide.2 HPU2.out)).mono ?_;rintro x9 w9 ⟨rfl,hcm⟩;have HCM:=lh hcm;clear hcm)
         obtain ⟨A8,c8,hco,hlo,hch,hown⟩:=HCM.out
         exact cm_add HB.out hs H4.out H5.out HN.out HKC.out HPR.out HGB.out HV.out HGS.out hco hlo hch hown (by omega)
    ·have HGB:Hid (cmpB e f=true):=lh (by unfold cmpB;simp [hn])
     have hnb:(chN e f != 0)=true:=by simpa using hn
     clear HQ
     gi_wp2_with fail
     exact cm_ret HB.out H4.out H5.out HC.out.2.2.2 HPR.out HGB.out
  case done =>
   rintro D xs W hD hxs ⟨hB,hs,⟨k4,k5⟩,⟨A,c,kc⟩,hN⟩ hK
   rw [show cmpC a b (xs.map (·.1))=cmpL a b from by rw [hxs];rfl] at kc
   have hp:prA cmpB a b=false:=prA_no fun q e f hq hpr=>by
    have:q∈xs.map (·.1):=by rw [hxs];exact List.mem_range.2 hq
    obtain ⟨y,hy,rfl⟩:=List.mem_map.1 this
    exact hN y hy e f hpr
   have HE:Hid (cmpE a b=if (cmpL a b).2=true then 72 else 0):=lh (by unfold cmpE;rw [if_pos hz,if_neg (by rw [hp];decide)])
   have HR:=lh (resE_any (cmpL a b).1 (cmpL a b).2 w1.heap.size (w1.heap.size+1) A c W kc)
   obtain ⟨A2,c2,e2,hsv,-⟩:=kc.2.read (fun b hb hk=>by omega)
   cases e2
   have HS:=lh hsv
   have HB:=lh hB
   have H4:=lh k4
   have H5:=lh k5
   have hg4:w.heap.size<w1.heap.size:=by omega
   clear hp hN hxs hB k4 k5 kc hsv b4 b5 hco hx1 hx2 hno hr1 hr2 hsf ha hb oka okb hm hSP hB0 he1 he2 HB1 HB2 HX1 HX2 HCK
   obtain ⟨L,HL⟩:∃ L,Hid ((cmpL a b).1=L):=⟨_,lh rfl⟩
   obtain ⟨full,HF⟩:∃ full,Hid ((cmpL a b).2=full):=⟨_,lh rfl⟩
   rw [HF.out] at HE HR
   rw [HL.out] at HR HS
   have key:∀ (w5:World) (v n:Value),nsV v→Below W.heap.size W w5→BX (((w5.setCell ⟨w.heap.size,0,none⟩ v).setCell ⟨w.heap.size+1,0,none⟩ n).putObj D (.deferred none)) w.heap.size [v]∧BX (((w5.setCell ⟨w.heap.size,0,none⟩ v).setCell ⟨w.heap.size+1,0,none⟩ n).putObj D (.deferred none)) (w.heap.size+1) [n]∧Below w.heap.size w (((w5.setCell ⟨w.heap.size,0,none⟩ v).setCell ⟨w.heap.size+1,0,none⟩ n).putObj D (.deferred none))∧SV elE (((w5.setCell ⟨w.heap.size,0,none⟩ v).setCell ⟨w.heap.size+1,0,none⟩ n).putObj D (.deferred none)) kN A c L∧((w5.setCell ⟨w.heap.size,0,none⟩ v).setCell ⟨w.heap.size+1,0,none⟩ n).heap[D]? = some (.deferred (some [])):=fun w5 v n hv hb5=>by
    have hko:KeepsOthers w5 ((w5.setCell ⟨w.heap.size,0,none⟩ v).setCell ⟨w.heap.size+1,0,none⟩ n):=(KeepsOthers.setCell _ _ _).trans (KeepsOthers.setCell _ _ _)
    have hK5:=(hb5.block D (Array.getElem?_eq_some_iff.1 hK).1).trans hK
    have hK2:=hko.same D _ hK5 rfl
    have hn:NC ((w5.setCell ⟨w.heap.size,0,none⟩ v).setCell ⟨w.heap.size+1,0,none⟩ n) (some D):=fun r e=>by cases e;exact ⟨_,hK2,rfl⟩
    have hg:=grownBy_putObj' ((w5.setCell ⟨w.heap.size,0,none⟩ v).setCell ⟨w.heap.size+1,0,none⟩ n) D (.deferred none)
    have x4:=H4.out.below hb5
    have x5:=H5.out.below hb5
    have x5b:BNX (w5.setCell ⟨w.heap.size,0,none⟩ v) (w.heap.size+1) [.int .i64 0]:=⟨x5.1.other (p:=⟨w.heap.size,0,none⟩) (by simp) v,x5.2.same (heap_setCell_other _ _ _ _ (by simp))⟩
    have hch:Ch (fun j=>j≤w1.heap.size) w5 ((w5.setCell ⟨w.heap.size,0,none⟩ v).setCell ⟨w.heap.size+1,0,none⟩ n):=(Ch.set (p:=⟨w.heap.size,0,none⟩) (by show w.heap.size≤w1.heap.size;omega) x4.2 v).trans (Ch.set (p:=⟨w.heap.size+1,0,none⟩) (by show w.heap.size+1≤w1.heap.size;omega) x5b.2 n)
    refine ⟨BX.nc (BX.other (x4.1.set (j:=0) (by simp) v) (by simp) n) hg hn,BX.nc (x5b.1.set (j:=0) (by simp) n) hg hn,?_,((HS.out.below hb5).ch hch).weak.gn gnE hg hn,hK2⟩
    have hlow:=((go3 HB.out hb5).setCell (p:=⟨w.heap.size,0,none⟩) (Nat.le_refl _) v).setCell (p:=⟨w.heap.size+1,0,none⟩) (by show w.heap.size≤w.heap.size+1;omega) n
    exact hlow.grown hg hlow.size (fun k e=>by cases e;omega)
   have HKY:=lh key
   clear key
   cases full with
   | true =>
    simp only [if_true] at HR ⊢
    gi_wp2_with (refine ⟨trivial,?_⟩;gi_at_call 26;refine (callsIn_wide.2 HR.out).mono ?_;rintro e w5 ⟨rfl,hb5⟩;have HB5:=lh hb5;have x4:=(H4.out.below hb5).1.c1;have x5:=(H5.out.below hb5).1.c1;have f4:=(H4.out.below hb5).1.2.1 0;have f5:=(H5.out.below hb5).1.2.1 0;clear hb5)
    obtain ⟨y4,y5,yb,ys,yk⟩:=HKY.out w5 (.slice none 0 0) (.int .i64 72) ns_slice HB5.out
    refine ⟨by simp,.inl ⟨_,_,rfl,run_takeDeferred yk,?_⟩⟩
    have u4:=y4.c1
    have u5:=y5.c1
    refine ⟨.tuple #[.slice none 0 0,.int .i64 72],by simp [results,Tryz.results12,go_sem,u4,u5],RetCm.bad HE.out (by decide) rfl yb⟩
   | false =>
    simp only [Bool.false_eq_true,if_false] at HR ⊢
    gi_wp2_with (refine ⟨trivial,?_⟩;gi_at_call 26;refine (callsIn_wide.2 HR.out).mono ?_;rintro e w5 ⟨rfl,hb5⟩;have HB5:=lh hb5;have x4:=(H4.out.below hb5).1.c1;have x5:=(H5.out.below hb5).1.c1;have f4:=(H4.out.below hb5).1.2.1 0;have f5:=(H5.out.below hb5).1.2.1 0;clear hb5)
    obtain ⟨y4,y5,yb,ys,yk⟩:=HKY.out w5 (.slice A L.length c) (.int .i64 0) ns_slice HB5.out
    refine ⟨by simp,.inl ⟨_,_,rfl,run_takeDeferred yk,?_⟩⟩
    have u4:=y4.c1
    have u5:=y5.c1
    refine ⟨.tuple #[.slice A L.length c,.int .i64 0],by simp [results,Tryz.results12,go_sem,u4,u5],RetCm.good HE.out HL.out rfl ys yb⟩
  case stop =>
   rintro D cd pre W hD ⟨k,hk⟩ ⟨rfl,⟨q,hq,e,f,hpr,hbad⟩,⟨x4,x5⟩,hB⟩ hK
   have HE:Hid (cmpE a b=72):=lh (by unfold cmpE;rw [if_pos hz,if_pos (prA_yes q.2 hpr hbad)])
   gi_wp2
   refine ⟨by simp,.inl ⟨_,_,rfl,run_takeDeferred hK,?_⟩⟩
   have hn:NC W (some D):=put_nc hK
   have u4:=(BX.nc x4 (grownBy_putObj' _ D (.deferred none)) hn).c1
   have u5:=(BX.nc x5 (grownBy_putObj' _ D (.deferred none)) hn).c1
   refine ⟨.tuple #[.slice none 0 0,.int .i64 72],by simp [results,Tryz.results12,go_sem,u4,u5],?_⟩
   exact RetCm.bad HE.out (by decide) rfl (hB.grown (grownBy_putObj' _ D (.deferred none)) hB.size (fun k e=>by cases e;omega))
 ·have HE:Hid (cmpE a b=chkMs [a,b]):=lh (if_neg hz)
  have hzb:(chkMs [a,b] != 0)=true:=by simpa using hz
  have H4:At (fun W=>BX W w.heap.size [.slice none 0 0]∧BX W (w.heap.size+1) [.int .i64 0]∧Below w.heap.size w W) ((w.alloc (.cells #[.slice none 0 0] 29)).alloc (.cells #[.int .i64 0] 26)):=⟨fun X Y h hb=>⟨h.1.below hb,h.2.1.below hb,go3 h.2.2 hb⟩,(BX.new w [_] _ rfl).below bB,BX.new _ [_] _ (by simp),bB⟩
  clear ha hb oka okb hm hSP
  generalize chkMs [a,b]=n at *
  gi_wp2_with (refine ⟨trivial,?_⟩;gi_at_call 23;refine (callsIn_wide.2 (HCK.out _ _ bB (BX.new _ [_,_] _ (by simp)))).mono ?_;rintro x w1 ⟨rfl,hb1⟩;replace H4:=H4.go2 bB hb1;have x4:=H4.out.1.c1;have x5:=H4.out.2.1.c1;have f4:=H4.out.1.2.1 0;have f5:=H4.out.2.1.2.1 0;clear hb1)
  have hle:w.heap.size≤w1.heap.size:=H4.out.2.2.size
  have y4:BX ((w1.setCell ⟨w.heap.size,0,none⟩ (.slice none 0 0)).setCell ⟨w.heap.size+1,0,none⟩ (.int .i64 n)) w.heap.size [.slice none 0 0]:=BX.other (H4.out.1.set (j:=0) (by simp) _) (by simp) _
  have y5:BX ((w1.setCell ⟨w.heap.size,0,none⟩ (.slice none 0 0)).setCell ⟨w.heap.size+1,0,none⟩ (.int .i64 n)) (w.heap.size+1) [.int .i64 n]:=(BX.other (p:=⟨w.heap.size,0,none⟩) H4.out.2.1 (by simp) _).set (j:=0) (by simp) _
  have u4:=y4.c1
  have u5:=y5.c1
  refine ⟨.tuple #[.slice none 0 0,.int .i64 n],by simp [results,Tryz.results12,go_sem,u4,u5],RetCm.bad HE.out hz rfl ?_⟩
  exact (H4.out.2.2.setCell (p:=⟨w.heap.size,0,none⟩) (Nat.le_refl _) _).setCell (p:=⟨w.heap.size+1,0,none⟩) (by show w.heap.size≤w.heap.size+1;omega) _
end Go.Proofs.YtelkmeiepliecaaGreatDoor

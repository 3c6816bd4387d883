/-
  Part 50 of the proof.
-/
import Derived.Test.YtelkmeiepliecaaGreatDoorV38
import Derived.Sort.CutIn
set_option linter.unusedSimpArgs false
set_option linter.unusedVariables false
set_option maxHeartbeats 16000000
namespace Go.Proofs.YtelkmeiepliecaaGreatDoor
open Go.RowKit Go.Shelf
attribute [local go_sem] Oper.semAt_some
theorem sv2 {w:World} {K:Nat→Prop} {A B:Option Addr} {c d:Nat} {m n:List En} {g:Nat} (h:SV elE w K A c m) (k:SV elE w K B d n) (hb:BX w g [.slice A m.length c,.slice B n.length d]) (hk:¬ K g) {e:Nat} (hd:2≤e) (hd2:e≤9223372036854775807):SV elM w K (some ⟨g,0,none⟩) e [m,n] :=
 ⟨[[.slice A m.length c],[.slice B n.length d]],RR.of_bx hb (fun r hr=>by
  rcases List.mem_cons.1 hr with rfl|hr
  ·rfl
  ·rw [List.mem_singleton.1 hr];rfl) hd hd2,(Rel.single (x:=m) (e:=elM) (w:=w) (K:=K) ⟨A,c,rfl,h⟩).app (Rel.single (x:=n) (e:=elM) (w:=w) (K:=K) ⟨B,d,rfl,k⟩),fun _ a ea=>by cases ea;exact hk⟩
theorem cells_of {W:World} {a:Addr} {u:Value} (h0:W.cell? a=some u):∃ cs T f,W.heap[a.block]? = some (.cells cs T f):=by
 unfold World.cell? at h0
 cases hh:W.heap[a.block]? with
 | none=>rw [hh] at h0;cases h0
 | some ob =>
  rw [hh] at h0
  cases ob with
  | cells cs T f=>exact ⟨cs,T,f,rfl⟩
  | _=>cases h0
def GB (s g:Nat) (cs:List Value) (V:World):Prop:=BX V g cs∧NSB V g∧s≤g
theorem GB.kept (s g:Nat) (cs:List Value):Kept (GB s g cs):=fun X Y h hb=>⟨h.1.below hb,h.2.1.below h.1.2.2 hb,h.2.2⟩
section
variable {P:Program} {ops:Array Oper} {Q:Exit→Act→World→Prop} {md:Region.Mode} {S:World→Prop}
theorem al_newH {s:Nat} {fuel:Nat} {listed:Array Bool} {a:Act} {V:World} {cs:List Value} {T:TypeId} (hn:∀ u∈cs,nsV u) (hs:s≤V.heap.size) (h:At (GB s V.heap.size cs) (V.alloc (.cells cs.toArray T))→wpAnyH P md ops Q S fuel listed a (V.alloc (.cells cs.toArray T))):wpAnyH P md ops Q S fuel listed a (V.alloc (.cells cs.toArray T)) :=
 h ⟨GB.kept _ _ _,BX.new V _ _ rfl,NSB.new V _ hn rfl,hs⟩
theorem al_newD {s:Nat} {fuel:Nat} {listed:Array Bool} {a:Act} {V:World} {cs:List Value} {T:TypeId} (hn:∀ u∈cs,nsV u) (hs:s≤V.heap.size) (h:At (GB s V.heap.size cs) (V.alloc (.cells cs.toArray T))→wpAnyH P md ops Q S fuel listed a (V.alloc (.cells cs.toArray T)).drew):wpAnyH P md ops Q S fuel listed a (V.alloc (.cells cs.toArray T)).drew :=
 h ⟨GB.kept _ _ _,BX.new V _ _ rfl,NSB.new V _ hn rfl,hs⟩
end
theorem R5s.imp {Safe Safe2:Nat→World→Prop} {W:World} {A:Option Addr} {n:Nat} {r:Nat→R5} (h:R5s Safe W A n r) (hk:∀ j,Safe j W→Safe2 j W):R5s Safe2 W A n r:=fun j hj=>by
 obtain ⟨b,o,e,hs,k⟩:=h j hj
 exact ⟨b,o,e,hk b hs,k⟩
theorem SV.r5w {w w2:World} {A0:Option Addr} {c0 g:Nat} {m:List En} (h:SV elE w kN A0 c0 m) (hb:Below w.heap.size w w2) (hg:w.heap.size≤g) (ho:∀ j,¬ ownG g w2 j) :
 ∃ r:Nat→R5,R5s (SafeC g) w2 A0 m.length r∧∀ j e,m[j]? = some e→∃ A c B d H n,r j=Go.Proofs.YtelkmeiepliecaaGreatDoor.r5 e A c B d H n∧EG w e A c B d H n:=by
 obtain ⟨r,h1,h2⟩:=h.r5 (fun b W=>b<w.heap.size∧∃ cs T f,W.heap[b]? = some (.cells cs T f)) (fun b hc=>by
  obtain ⟨cs,T,f,e⟩:=hc
  exact ⟨(Array.getElem?_eq_some_iff.1 e).1,cs,T,f,e⟩)
 refine ⟨r,(h1.keep (W':=w2) fun j hj=>⟨hb.block j hj.1,hj.1,?_⟩).imp fun j hj=>⟨hj.2,by have:=hj.1;omega,ho j⟩,h2⟩
 obtain ⟨cs,T,f,e⟩:=hj.2
 exact ⟨cs,T,f,(hb.block j hj.1).trans e⟩
def AgI (w:World) (g s:Nat) (a b:List En) (pre:List {q:Nat // q<a.length * b.length}) (W:World):Prop :=
 Below w.heap.size w W∧s≤W.heap.size∧(BNX W w.heap.size [.slice none 0 0]∧BNX W (w.heap.size+1) [.int .i64 0])∧(∃ A c,CO elR 48 W g (g+1) A c (agC a b (pre.map (·.1))).1 (agC a b (pre.map (·.1))).2)∧∀ q∈pre,∀ e f,prI a b q.1=some (e,f)→agB e f=false
def AgX (w:World) (a b:List En) (cd:Code) (pre:List {q:Nat // q<a.length * b.length}) (W:World):Prop :=
 cd=.ret∧(∃ q∈pre,∃ e f,prI a b q.1=some (e,f)∧agB e f=true)∧(BX W w.heap.size [.slice none 0 0]∧BX W (w.heap.size+1) [.int .i64 72])∧Below w.heap.size w W
theorem AgI.own {w:World} {g s B:Nat} {a b:List En} (hB:w.heap.size≤B):OwnFrom B (AgI w g s a b):=fun pre X Y row h hg hr=>by
 obtain ⟨h1,h2,⟨h3,h4⟩,⟨A,c,h5⟩,h6⟩:=h
 have hn:NC X row:=fun r e=>(hr r e).2
 exact ⟨h1.grown hg h1.size (fun k e=>Nat.le_trans hB (hr k e).1),Nat.le_trans h2 hg.size,⟨h3.nc hg hn,h4.nc hg hn⟩,⟨A,c,h5.gn gnR hg hn⟩,h6⟩
theorem AgX.own {w:World} {B:Nat} {a b:List En} (hB:w.heap.size≤B) (cd:Code):OwnFrom B (AgX w a b cd):=fun pre X Y row h hg hr=>by
 obtain ⟨h1,h2,⟨h3,h4⟩,h5⟩:=h
 have hn:NC X row:=fun r e=>(hr r e).2
 exact ⟨h1,h2,⟨BX.nc h3 hg hn,BX.nc h4 hg hn⟩,h5.grown hg h5.size (fun k e=>Nat.le_trans hB (hr k e).1)⟩
def RetAm (w:World) (a b:List En) (x:Ending) (w':World):Prop :=
 (agrE a b≠0→x=.returned (.tuple #[.slice none 0 0,.int .i64 (agrE a b)])∧Below w.heap.size w w') ∧
 (agrE a b=0→∃ A c,x=.returned (.tuple #[.slice A (agrL a b).1.length c,.int .i64 0])∧SV elR w' kN A c (agrL a b).1∧Below w.heap.size w w')
theorem RetAm.bad {w w':World} {a b:List En} {x:Ending} {n:Int} (hE:agrE a b=n) (hn:n≠0) (hx:x=.returned (.tuple #[.slice none 0 0,.int .i64 n])) (hb:Below w.heap.size w w'):RetAm w a b x w':=⟨fun _=>⟨by rw [hE];exact hx,hb⟩,fun h=>absurd (hE▸h) hn⟩
theorem RetAm.good {w w':World} {a b:List En} {x:Ending} {L:List Rg} {A:Option Addr} {c:Nat} (hE:agrE a b=0) (hL:(agrL a b).1=L) (hx:x=.returned (.tuple #[.slice A L.length c,.int .i64 0])) (hs:SV elR w' kN A c L) (hb:Below w.heap.size w w'):RetAm w a b x w':=by
 subst hL
 exact ⟨fun h=>absurd hE h,fun _=>⟨A,c,hx,hs,hb⟩⟩
def RdP (s:Nat) (b:Pn) (ps:List Pn) (B:Option Addr) (n d:Nat) (q:Bool) (A:Option Addr) (m c:Nat) (v:Bool) (k:Int) (V:World):Prop :=
 (rdE b ps=true∧v=false∧k=72)∨(rdE b ps=false∧k=0∧v=(!voidF b (redH b ps))∧n=b.1.length∧q=b.2∧m=(redH b ps).length∧RG V (b,redH b ps) B d A c∧∀ a,A=some a→s≤a.block)
theorem RdP.kept (s:Nat) (b:Pn) (ps:List Pn) (B:Option Addr) (n d:Nat) (q:Bool) (A:Option Addr) (m c:Nat) (v:Bool) (k:Int):Kept (RdP s b ps B n d q A m c v k):=fun X Y h hb=>h.imp id fun ⟨h1,h2,h3,h4,h5,h6,h7,h8⟩=>⟨h1,h2,h3,h4,h5,h6,h7.below hb,h8⟩
theorem RdP.mono {s s':Nat} {b:Pn} {ps:List Pn} {B:Option Addr} {n d:Nat} {q:Bool} {A:Option Addr} {m c:Nat} {v:Bool} {k:Int} {V:World} (h:RdP s b ps B n d q A m c v k V) (hs:s'≤s):RdP s' b ps B n d q A m c v k V:=h.imp id fun ⟨h1,h2,h3,h4,h5,h6,h7,h8⟩=>⟨h1,h2,h3,h4,h5,h6,h7,fun a e=>Nat.le_trans hs (h8 a e)⟩
theorem RdP.set3 {s g:Nat} {b:Pn} {ps:List Pn} {B:Option Addr} {n d:Nat} {q:Bool} {A:Option Addr} {m c:Nat} {v:Bool} {k:Int} {V:World} (h:RdP s b ps B n d q A m c v k V) (hn:NSB V g) (hg:g<s) {x y:Value} (hx:nsV x) (hy:nsV y) (z:Value):RdP s b ps B n d q A m c v k (((V.setCell ⟨g,0,none⟩ x).setCell ⟨g,1,none⟩ y).setCell ⟨g,2,none⟩ z) :=
 h.imp id fun ⟨h1,h2,h3,h4,h5,h6,h7,h8⟩=>⟨h1,h2,h3,h4,h5,h6,⟨h7.1.set3 hn hx hy z,h7.2.set3 (fun a ea=>by have:=h8 a ea;omega) hn hx hy z⟩,h8⟩
theorem RetRd.one {w w':World} {b:Pn} {ps:List Pn} {x:Ending} (h:RetRd w b ps x w'):∃ B n d q A m c v k,x=.returned (.tuple #[.agg #[.slice B n d,.bool q,.slice A m c],.bool v,.int .i64 k])∧Below w.heap.size w w'∧RdP w.heap.size b ps B n d q A m c v k w':=by
 cases hr:rdE b ps with
 | true =>
  obtain ⟨rfl,hb⟩:=h.1 hr
  exact ⟨none,0,0,false,none,0,0,false,72,rfl,hb,.inl ⟨hr,rfl,rfl⟩⟩
 | false =>
  obtain ⟨B,d,A,c,rfl,⟨hg,hf⟩,hb⟩:=h.2 hr
  exact ⟨B,_,d,_,A,_,c,_,_,rfl,hb,.inr ⟨hr,rfl,rfl,rfl,rfl,rfl,hg,hf⟩⟩
theorem ag_ret {w W V:World} {B:Nat} {a b:List En} {pre:List {q:Nat // q<a.length * b.length}} {x:{q:Nat // q<a.length * b.length}} {e f:En} (hB:Below w.heap.size w W) (h4:BNX W w.heap.size [.slice none 0 0]) (h5:BNX W (w.heap.size+1) [.int .i64 0]) (hV:Below W.heap.size W V) (hp:prI a b x.1=some (e,f)) (hg:agB e f=true) :
 KeepsFrom B W ((V.setCell ⟨w.heap.size,0,none⟩ (.slice none 0 0)).setCell ⟨w.heap.size+1,0,none⟩ (.int .i64 72))∧AgX w a b .ret (pre++[x]) ((V.setCell ⟨w.heap.size,0,none⟩ (.slice none 0 0)).setCell ⟨w.heap.size+1,0,none⟩ (.int .i64 72)):=by
 have x4:=h4.below hV
 have x5:=h5.below hV
 have y5:BX (V.setCell ⟨w.heap.size,0,none⟩ (.slice none 0 0)) (w.heap.size+1) [.int .i64 0]:=x5.1.other (p:=⟨w.heap.size,0,none⟩) (by simp) _
 exact ⟨(kf_below hV).trans (((KeepsOthers.setCell _ _ _).trans (KeepsOthers.setCell _ _ _)).from _),rfl,⟨x,by simp,e,f,hp,hg⟩,⟨BX.other (x4.1.set (j:=0) (by simp) _) (by simp) _,y5.set (j:=0) (by simp) _⟩,
  ((go3 hB hV).setCell (p:=⟨w.heap.size,0,none⟩) (Nat.le_refl _) _).setCell (p:=⟨w.heap.size+1,0,none⟩) (by show w.heap.size≤w.heap.size+1;omega) _⟩
theorem ag_on {w W V:World} {g s B:Nat} {a b:List En} {pre:List {q:Nat // q<a.length * b.length}} {x:{q:Nat // q<a.length * b.length}} {e f:En} (hB:Below w.heap.size w W) (hs:s≤W.heap.size) (h4:BNX W w.heap.size [.slice none 0 0]) (h5:BNX W (w.heap.size+1) [.int .i64 0]) (hN:∀ q∈pre,∀ e f,prI a b q.1=some (e,f)→agB e f=false)
 {A:Option Addr} {c:Nat} (kc:CO elR 48 W g (g+1) A c (agC a b (pre.map (·.1))).1 (agC a b (pre.map (·.1))).2) (hp:prI a b x.1=some (e,f)) (hg:agB e f=false) (hV:Below W.heap.size W V) (hS:agS (agC a b (pre.map (·.1))) e f=agC a b (pre.map (·.1))) :
 KeepsFrom B W V∧KpC g W V∧AgI w g s a b (pre++[x]) V:=by
 have hC:agC a b ((pre++[x]).map (·.1))=agC a b (pre.map (·.1)):=by
  rw [List.map_append,← hS]
  exact (prC_snoc hp).trans rfl
 refine ⟨kf_below hV,KpC.below hV,go3 hB hV,Nat.le_trans hs hV.size,⟨h4.below hV,h5.below hV⟩,⟨A,c,by rw [hC];exact kc.below hV⟩,fun q hq e' f' hp'=>?_⟩
 rcases List.mem_append.1 hq with hq|hq
 ·exact hN q hq e' f' hp'
 ·rw [List.mem_singleton.1 hq,hp] at hp'
  cases hp'
  exact hg
theorem BNX.same {w w':World} {g:Nat} {cs:List Value} (h:BNX w g cs) (e:w'.heap[g]? = w.heap[g]?):BNX w' g cs:=⟨h.1.same e,h.2.same e⟩
theorem ag_add {w W V V2:World} {g s B:Nat} {a b:List En} {pre:List {q:Nat // q<a.length * b.length}} {x:{q:Nat // q<a.length * b.length}} {e f:En} {y:Rg} (hB:Below w.heap.size w W) (hs:s≤W.heap.size) (h4:BNX W w.heap.size [.slice none 0 0]) (h5:BNX W (w.heap.size+1) [.int .i64 0]) (hN:∀ q∈pre,∀ e f,prI a b q.1=some (e,f)→agB e f=false)
 {A:Option Addr} {c:Nat} (kc:CO elR 48 W g (g+1) A c (agC a b (pre.map (·.1))).1 (agC a b (pre.map (·.1))).2) (hp:prI a b x.1=some (e,f)) (hg:agB e f=false) (hV:Below W.heap.size W V) (hS:agS (agC a b (pre.map (·.1))) e f=addC (agC a b (pre.map (·.1))) y)
 {A2:Option Addr} {c2:Nat} (k2:CO elR 48 V2 g (g+1) A2 c2 (addC (agC a b (pre.map (·.1))) y).1 (addC (agC a b (pre.map (·.1))) y).2) (hlo:Below g V V2) (hch:Ch (fun j=>j=g∨(Value.slice A (agC a b (pre.map (·.1))).1.length c).ownBlock=some j) V V2) (hown:OwnN A (agC a b (pre.map (·.1))).1.length c A2 (addC (agC a b (pre.map (·.1))) y).1.length c2 V.heap.size) (hwg:w.heap.size+1<g) :
 KeepsFrom B W V2∧KpC g W V2∧AgI w g s a b (pre++[x]) V2:=by
 have hC:agC a b ((pre++[x]).map (·.1))=addC (agC a b (pre.map (·.1))) y:=by
  rw [List.map_append,← hS]
  exact (prC_snoc hp).trans rfl
 obtain ⟨p1,p2⟩:=KpC.add (kc.below hV) k2 rfl rfl hch hown
 refine ⟨(kf_below hV).trans (p2 B),(KpC.below hV).trans p1,(go3 hB hV).trans (hlo.mono (by omega)),Nat.le_trans hs (Nat.le_trans hV.size hlo.size),⟨(h4.below hV).same (hlo.block _ (by omega)),(h5.below hV).same (hlo.block _ (by omega))⟩,⟨A2,c2,by rw [hC];exact k2⟩,fun q hq e' f' hp'=>?_⟩
 rcases List.mem_append.1 hq with hq|hq
 ·exact hN q hq e' f' hp'
 ·rw [List.mem_singleton.1 hq,hp] at hp'
  cases hp'
  exact hg
set_option maxRecDepth 100000 in
theorem agreement_any (a b:List En) (A0 B0:Option Addr) (c0 d0:Nat) (w:World) (ha:SV elE w kN A0 c0 a) (hb:SV elE w kN B0 d0 b) (oka:okM a) (okb:okM b) (hm:ML w)
 (hSZ:∀ e∈a,∀ f∈b,agG e.1.1 e.1.2 e.2.1.1 e.2.1.2 f.1.1 f.1.2 f.2.1.1 f.2.1.2=true→SZ 2400 (meetL e.1.1 f.1.1) (carL e.1.1 e.1.2 (meetL e.1.1 f.1.1) (e.1.2&&f.1.2) e.2.1.1 e.2.1.2) (carL f.1.1 f.1.2 (meetL e.1.1 f.1.1) (e.1.2&&f.1.2) f.2.1.1 f.2.1.2))
 (hSP:∀ e∈a,∀ f∈b,agO e f=true→szP (agP e f)) :
 Calls Tryz.prog 16 #[.slice A0 a.length c0,.slice B0 b.length d0] w (RetAm w a b):=by
 have HCK:Hid (∀ W g,Below w.heap.size w W→BX W g [.slice A0 a.length c0,.slice B0 b.length d0]→Calls Tryz.prog 23 #[.slice (some ⟨g,0,none⟩) 2 2] W fun x w'=>x=.returned (.int .i64 (chkMs [a,b]))∧Below W.heap.size W w'):=lh (fun W g hW hg =>
  mcheck_any [a,b] kN (some ⟨g,0,none⟩) 2 W (sv2 (ha.below hW) (hb.below hW) hg (fun h=>h) (Nat.le_refl _) (by omega)) (fun q hq=>by
   rcases List.mem_cons.1 hq with rfl|hq
   ·exact oka
   ·rw [List.mem_singleton.1 hq];exact okb) (hm.below hW))
 have h1:(1:Nat)≤3:=by omega
 refine (callsIn_wide (n:=6)).1 ?_
 refine callsIn_of_wp_marks Tryz.func16 rfl trivial ?_ rfl
 simp only [Tryz.ntmps16,List.size_toArray,List.length_cons,List.length_nil,Nat.reduceAdd,Nat.reduceSub,Array.replicate_succ,Array.replicate_zero,List.push_toArray,List.append_toArray,List.nil_append,List.cons_append]
 by_cases hz:chkMs [a,b]=0
 ·rw [hz] at HCK
  gi_wp2_with (first
   | (refine ⟨trivial,?_⟩;gi_at_call 23;refine (callsIn_wide.2 (HCK.out _ _ bB (BX.new _ [_,_] _ (by simp)))).mono ?_;rintro x w1 ⟨rfl,hb1⟩;have HB1:=lh hb1;clear hb1)
   | (refine ⟨trivial,?_⟩;gi_at_call 27;refine (callsIn_wide.2 (pairs_any _ _ _ _ _ _ _)).mono ?_;rintro e w2 ⟨rfl,hx1,hx2,hb2⟩;have HB2:=lh hb2;have HX1:=lh hx1;have HX2:=lh hx2;clear hb2 hx1 hx2))
  have hg0:w.heap.size+1+1≤w1.heap.size:=by have:=HB1.out.size;simp at this;omega
  have hB0:Below w.heap.size w w2:=go3 (go3 bB HB1.out) (go3 (ba w1 _) HB2.out)
  have b4:BNX w2 w.heap.size [.slice none 0 0]:=(((BNX.new w [.slice none 0 0] 41 rfl (ns1 ns_slice)).below bB).below HB1.out).below (go3 (ba w1 _) HB2.out)
  have b5:BNX w2 (w.heap.size+1) [.int .i64 0]:=(((BNX.new (w.alloc (.cells #[.slice none 0 0] 41)) [.int .i64 0] 26 (by simp) (ns1 ns_int)).below bB).below HB1.out).below (go3 (ba w1 _) HB2.out)
  have hco:CO elR 48 w2 w1.heap.size (w1.heap.size+1) none 0 [] false:=(CO.new elR 48 102 w1).below HB2.out
  have hx1:=HX1.out
  have hx2:=HX2.out
  simp only [World.size_alloc] at hx1 hx2
  have hno:∀ j,¬ ownG w1.heap.size w2 j:=fun j ⟨v,hv,ho⟩=>by
   have:=hco.1.1.1 0 _ rfl
   rw [this] at hv
   cases hv
   cases ho
  obtain ⟨r1,hr1,he1⟩:=ha.r5w hB0 (by omega:w.heap.size≤w1.heap.size) hno
  obtain ⟨r2,hr2,he2⟩:=hb.r5w hB0 (by omega:w.heap.size≤w1.heap.size) hno
  have hs2:w1.heap.size+1+1<w2.heap.size:=hx2.2.2
  have hla:=oka.2
  have hlb:=okb.2
  have hsf:SafeC w1.heap.size (w1.heap.size+1+1) w2:=⟨cells_of (hx2.1 0 _ rfl),by omega,hno _⟩
  refine wpIn_rangeFunc_ownH rfl (by omega) (gf:=56) (lb:=#[.pointer (some ⟨w1.heap.size+1,0,none⟩),.pointer (some ⟨w1.heap.size+1+1,0,none⟩)]) rfl trivial (enters_of Tryz.func56 (by kernel_rfl) rfl)
   (pairs_stops Fence.wide 5 trivial rfl (by omega) w1.heap.size (w1.heap.size+1) (w1.heap.size+1+1) a.length b.length c0 d0 A0 B0 r1 r2 w2 (by omega) (by omega) (hx1.1 0 _ rfl) (by omega) ⟨⟨hsf,hx2.1 0 _ rfl⟩,hr1,hr2⟩ hco.good) KpC.trans (fun W l o o' hl hW hc hw=>KpC.put (by omega:w1.heap.size<w2.heap.size) W l o o' hl hW hc hw) (Below.refl _ _) (fun _=>rfl)
   (AgI w w1.heap.size w2.heap.size a b) (AgX w a b) (AgI.own (by omega)) (AgX.own (by omega))
   ⟨hB0,Nat.le_refl _,⟨b4,b5⟩,⟨none,0,hco⟩,fun q hq=>by cases hq⟩
   (fun x a' W=>∃ Bx By,w2.heap.size≤Bx∧w2.heap.size≤By∧BX W Bx (r1 (x.1 / b.length)).l∧BX W By (r2 (x.1 % b.length)).l∧a'={ tmps:=#[.slice A0 a.length c0,.slice B0 b.length d0,undef,undef,.pointer (some ⟨w.heap.size,0,none⟩),.pointer (some ⟨w.heap.size+1,0,none⟩),.int .i64 0,.pointer (some ⟨w1.heap.size,0,none⟩),.pointer (some ⟨Bx,0,none⟩),.pointer (some ⟨By,0,none⟩),undef,undef,undef,undef,undef,.slice A0 a.length c0,.slice B0 b.length d0,.slice (some ⟨w.heap.size+1+1,0,none⟩) 2 2,.int .i64 0,.int .i64 0,.bool false,undef,.slice A0 a.length c0,.slice B0 b.length d0,.func (.func 56) #[] #[.pointer (some ⟨w1.heap.size+1,0,none⟩),.pointer (some ⟨w1.heap.size+1+1,0,none⟩)],.agg (r1 (x.1 / b.length)).l.toArray,.agg (r2 (x.1 % b.length)).l.toArray,undef,undef,undef,undef,undef,undef,undef,undef,undef,undef,undef,undef,undef,undef,undef,undef,undef,undef,undef,undef,undef,undef,undef,undef,undef,undef,undef,undef,undef,undef,undef,undef,undef,undef],defers:=[] })
   (fun x a' _ X Y row hs hg hr=>by obtain ⟨Bx,By,h1,h2,h3,h4,h5⟩:=hs;exact ⟨Bx,By,h1,h2,BX.nc h3 hg (fun r e=>(hr r e).2),BX.nc h4 hg (fun r e=>(hr r e).2),h5⟩)
   ?assign ?body ?done ?stop
  case assign =>
   rintro l pre x W K ⟨hB,hs,⟨k4,k5⟩,⟨A,c,kc⟩,hN⟩ hK
   simp only [R5.l]
   gi_wp2
   have hb2:Below W.heap.size W ((W.alloc (.cells (r1 (x.1 / b.length)).l.toArray 73)).alloc (.cells (r2 (x.1 % b.length)).l.toArray 73)):=bB
   exact hK _ _ (((KeepsOthers.alloc _ _).trans (KeepsOthers.alloc _ _)).from _) (KpC.below hb2) ⟨go3 hB hb2,Nat.le_trans hs hb2.size,⟨k4.below hb2,k5.below hb2⟩,⟨A,c,kc.below hb2⟩,hN⟩ ⟨W.heap.size,W.heap.size+1,hs,by omega,(BX.new W _ _ rfl).below (ba _ _),BX.new _ _ _ (by simp),rfl⟩
  case body =>
   rintro l pre x a' W hl2 ⟨rr,hrr⟩ ⟨hB,hs,⟨k4,k5⟩,⟨A9,c9,kc⟩,hN⟩ ⟨Bx,By,hBx,hBy,bX,bY,rfl⟩ hlt
   obtain ⟨e,f,hei,hfi,hpr⟩:=prI_some x.2
   obtain ⟨A,c,B,d,H,n,hr5,heg⟩:=he1 _ e hei
   obtain ⟨A',c',B',d',H',n',hr5',hfg⟩:=he2 _ f hfi
   have hea:=mG hei
   have hfb:=mG hfi
   have hke:=oka.1 e hea
   have hkf:=okb.1 f hfb
   rw [hr5] at bX
   rw [hr5'] at bY
   simp only [hr5,hr5',Go.Proofs.YtelkmeiepliecaaGreatDoor.r5,R5.l] at bX bY ⊢
   have hegW:=EG.below heg hB
   have hfgW:=EG.below hfg hB
   have HQ:At (fun V=>(BX V Bx [.slice A e.1.1.length c,.bool e.1.2,.slice B e.2.1.1.length d,.bool e.2.1.2,.slice H e.2.2.length n]∧BX V By [.slice A' f.1.1.length c',.bool f.1.2,.slice B' f.2.1.1.length d',.bool f.2.1.2,.slice H' f.2.2.length n'])∧(EG V e A c B d H n∧EG V f A' c' B' d' H' n')∧ML V∧Below W.heap.size W V) W :=
    ⟨fun X Y h hb=>⟨⟨h.1.1.below hb,h.1.2.below hb⟩,⟨h.2.1.1.below hb,h.2.1.2.below hb⟩,h.2.2.1.below hb,go3 h.2.2.2 hb⟩,⟨bX,bY⟩,⟨hegW,hfgW⟩,hm.below hB,Below.refl _ _⟩
   have HKS:Hid (∀ V,((BX V Bx [.slice A e.1.1.length c,.bool e.1.2,.slice B e.2.1.1.length d,.bool e.2.1.2,.slice H e.2.2.length n]∧BX V By [.slice A' f.1.1.length c',.bool f.1.2,.slice B' f.2.1.1.length d',.bool f.2.1.2,.slice H' f.2.2.length n'])∧(EG V e A c B d H n∧EG V f A' c' B' d' H' n')∧ML V∧Below W.heap.size W V)→(V.cell? ⟨Bx,0,none⟩=some (.slice A e.1.1.length c)∧V.cell? ⟨Bx,1,none⟩=some (.bool e.1.2)∧V.cell? ⟨Bx,2,none⟩=some (.slice B e.2.1.1.length d)∧V.cell? ⟨Bx,3,none⟩=some (.bool e.2.1.2)∧V.cell? ⟨Bx,4,none⟩=some (.slice H e.2.2.length n))∧(V.cell? ⟨By,0,none⟩=some (.slice A' f.1.1.length c')∧V.cell? ⟨By,1,none⟩=some (.bool f.1.2)∧V.cell? ⟨By,2,none⟩=some (.slice B' f.2.1.1.length d')∧V.cell? ⟨By,3,none⟩=some (.bool f.2.1.2)∧V.cell? ⟨By,4,none⟩=some (.slice H' f.2.2.length n'))):=lh (fun V h=>⟨h.1.1.c5,h.1.2.c5⟩)
   have HK2:Hid (∀ V g u v,((BX V Bx [.slice A e.1.1.length c,.bool e.1.2,.slice B e.2.1.1.length d,.bool e.2.1.2,.slice H e.2.2.length n]∧BX V By [.slice A' f.1.1.length c',.bool f.1.2,.slice B' f.2.1.1.length d',.bool f.2.1.2,.slice H' f.2.2.length n'])∧(EG V e A c B d H n∧EG V f A' c' B' d' H' n')∧ML V∧Below W.heap.size W V)→g≠Bx→g≠By→((((V.setCell ⟨g,0,none⟩ u).setCell ⟨g,1,none⟩ v).cell? ⟨Bx,0,none⟩=some (.slice A e.1.1.length c)∧((V.setCell ⟨g,0,none⟩ u).setCell ⟨g,1,none⟩ v).cell? ⟨Bx,1,none⟩=some (.bool e.1.2)∧((V.setCell ⟨g,0,none⟩ u).setCell ⟨g,1,none⟩ v).cell? ⟨Bx,2,none⟩=some (.slice B e.2.1.1.length d)∧((V.setCell ⟨g,0,none⟩ u).setCell ⟨g,1,none⟩ v).cell? ⟨Bx,3,none⟩=some (.bool e.2.1.2)∧((V.setCell ⟨g,0,none⟩ u).setCell ⟨g,1,none⟩ v).cell? ⟨Bx,4,none⟩=some (.slice H e.2.2.length n))∧(((V.setCell ⟨g,0,none⟩ u).setCell ⟨g,1,none⟩ v).cell? ⟨By,0,none⟩=some (.slice A' f.1.1.length c')∧((V.setCell ⟨g,0,none⟩ u).setCell ⟨g,1,none⟩ v).cell? ⟨By,1,none⟩=some (.bool f.1.2)∧((V.setCell ⟨g,0,none⟩ u).setCell ⟨g,1,none⟩ v).cell? ⟨By,2,none⟩=some (.slice B' f.2.1.1.length d')∧((V.setCell ⟨g,0,none⟩ u).setCell ⟨g,1,none⟩ v).cell? ⟨By,3,none⟩=some (.bool f.2.1.2)∧((V.setCell ⟨g,0,none⟩ u).setCell ⟨g,1,none⟩ v).cell? ⟨By,4,none⟩=some (.slice H' f.2.2.length n')))):=lh (fun V g u v h h1 h2=>by
    obtain ⟨⟨e0,e1,e2,e3,e4⟩,⟨e5,e6,e7,e8,e9⟩⟩:=HKS.out V h
    rw [set2_other _ _ (Ne.symm h1),set2_other _ _ (Ne.symm h1),set2_other _ _ (Ne.symm h1),set2_other _ _ (Ne.symm h1),set2_other _ _ (Ne.symm h1),set2_other _ _ (Ne.symm h2),set2_other _ _ (Ne.symm h2),set2_other _ _ (Ne.symm h2),set2_other _ _ (Ne.symm h2),set2_other _ _ (Ne.symm h2)]
    exact ⟨⟨e0,e1,e2,e3,e4⟩,⟨e5,e6,e7,e8,e9⟩⟩)
   have HLE:=lh (fun V=>line_any A B H e.1.1.length c e.2.1.1.length d e.2.2.length n e.1.2 e.2.1.2 V)
   have HLF:=lh (fun V=>line_any A' B' H' f.1.1.length c' f.2.1.1.length d' f.2.2.length n' f.1.2 f.2.1.2 V)
   have HAG:=lh (fun V (h:EG V e A c B d H n∧EG V f A' c' B' d' H' n') (hm:ML V)=>agree2_any false A c e.1.1 e.1.2 B d e.2.1.1 e.2.1.2 false A' c' f.1.1 f.1.2 B' d' f.2.1.1 f.2.1.2 V h.1.1 h.1.2.1 h.2.1 h.2.2.1 hm (fun x hx=>Nat.le_trans (hke.2.1 x hx) (by omega)) (fun x hx=>Nat.le_trans (hke.2.2.1 x hx) (by omega)) (fun x hx=>Nat.le_trans (hkf.2.1 x hx) (by omega)) (fun x hx=>Nat.le_trans (hkf.2.2.1 x hx) (by omega)) (hSZ e hea f hfb) (szP_of hke.1.2.1 hke.2.1 (by omega)).2 (szP_of hkf.1.2.1 hkf.2.1 (by omega)).2)
   unfold ruV at HAG
   have hBxl:=bX.2.2
   have hByl:=bY.2.2
   obtain ⟨⟨y0,y1,y2,y3,y4⟩,⟨z0,z1,z2,z3,z4⟩⟩:=HKS.out W HQ.out
   have h1':1≤6-1-1:=by omega
   have HKC:=lh kc
   have H4:=lh k4
   have H5:=lh k5
   have HB:=lh hB
   have HPR:=lh hpr
   have HN:=lh hN
   have HPZ:=lh (hSP e hea f hfb)
   have HPE:=lh hke
   have HPF:=lh hkf
   clear kc k4 k5 hB hpr hN hegW hfgW heg hfg hr5 hr5' bX bY hei hfi hea hfb hke hkf b4 b5 hco hx1 hx2 hno hr1 hr2 hsf ha hb oka okb hm hSZ hSP hB0 he1 he2 HB1 HB2 HX1 HX2 HCK
   gi_upto_region 8 with fail
   gi_cut [10,11,12] from 61 (fun s10 s11 s12 wx=>∃ (g:Nat) (C:Option Addr) (m:Nat),s10=.pointer (some ⟨g,0,none⟩)∧s11=.bool (agO e f)∧s12=.int .i64 (agN e f)∧Hid (W.heap.size≤g∧BX wx g [.slice C (agP e f).1.length m,.bool (agP e f).2]∧RT wx C m (agP e f).1∧Below W.heap.size W wx))
   case first =>
    refine wpIn_region_held (S:=fun V=>(V.cell? ⟨Bx,0,none⟩=some (.slice A e.1.1.length c)∧V.cell? ⟨Bx,1,none⟩=some (.bool e.1.2)∧V.cell? ⟨Bx,2,none⟩=some (.slice B e.2.1.1.length d)∧V.cell? ⟨Bx,3,none⟩=some (.bool e.2.1.2)∧V.cell? ⟨Bx,4,none⟩=some (.slice H e.2.2.length n))∧(V.cell? ⟨By,0,none⟩=some (.slice A' f.1.1.length c')∧V.cell? ⟨By,1,none⟩=some (.bool f.1.2)∧V.cell? ⟨By,2,none⟩=some (.slice B' f.2.1.1.length d')∧V.cell? ⟨By,3,none⟩=some (.bool f.2.1.2)∧V.cell? ⟨By,4,none⟩=some (.slice H' f.2.2.length n'))) (by kernel_rfl) (by kernel_rfl) ?hs0 (fun hHeld=>?_)
    case hs0=>exact HKS.out _ (HQ.go (by with_reducible apply Below.drew;with_reducible exact Below.refl _ _)).out
    refine tK 0 (v:=?_) 28 rfl rfl (Or.inl ⟨by rfl,?yy⟩) hHeld ?_
    case yy =>
     intro w' hSw
     try dsimp only at hSw
     go_simp<;>with_reducible rfl
    try simp only [Act.put,sL]
    refine tK 2 (v:=?_) 30 rfl rfl (Or.inl ⟨by rfl,?yy⟩) hHeld ?_
    case yy =>
     intro w' hSw
     try dsimp only at hSw
     go_simp<;>with_reducible rfl
    try simp only [Act.put,sL]
    refine wpAnyH_ready (rs:=[1,9]) (by kernel_rfl) (by simp) ?_
    refine AllReadyH.cons rfl (fun K hK=>?_) (AllReadyH.cons rfl (fun K hK=>?_) AllReadyH.nil)
    ·skip
     go_simp
     (go_at_call 29;with_reducible refine (HLE.out _).mono ?_;rintro x w5 ⟨rfl,hb5⟩;replace HQ:=HQ.go2 bB hb5;(try replace HG:=HG.go2 bB hb5);clear hb5)
     clear hHeld
     refine hK.out _ _ ?hs1 (fun hHeld=>?_)
     case hs1=>exact HKS.out _ (HQ.go bB).out
     clear hK K
     try simp only [Act.put,sL]
     refine wpAnyH_ready (rs:=[3,9]) (by kernel_rfl) (by simp) ?_
     refine AllReadyH.cons rfl (fun K hK=>?_) (AllReadyH.cons rfl (fun K hK=>?_) AllReadyH.nil)
     ·skip
      go_simp
      (go_at_call 29;with_reducible refine (HLF.out _).mono ?_;rintro x w6 ⟨rfl,hb6⟩;replace HQ:=HQ.go2 bB hb6;(try replace HG:=HG.go2 bB hb6);clear hb6)
      clear hHeld
      refine hK.out _ _ ?hs1 (fun hHeld=>?_)
      case hs1=>exact HKS.out _ (HQ.go bB).out
      clear hK K
      try simp only [Act.put,sL]
      refine wpAnyH_ready (rs:=[4,9]) (by kernel_rfl) (by simp) ?_
      refine AllReadyH.cons rfl (fun K hK=>?_) (AllReadyH.cons rfl (fun K hK=>?_) AllReadyH.nil)
      ·skip
       go_simp
       (go_at_call 38;refine (HAG.out _ (HQ.go bB).out.2.1 (HQ.go bB).out.2.2.1).mono ?_;rintro x w7 ⟨C,m,rfl,hrt,hb7⟩;replace HQ:=HQ.go2 bB hb7;(try replace HG:=HG.go2 bB hb7);have HRT:At (fun V=>RT V C m (agP e f).1) w7:=⟨kept_rt C m _,hrt⟩;clear hb7 hrt)
       clear hHeld
       refine hK.out _ _ ?hs1 (fun hHeld=>?_)
       case hs1=>exact HKS.out _ (HQ.go bB).out
       clear hK K
       try simp only [Act.put,sL]
       refine tK 5 (v:=?_) 27 rfl rfl (Or.inl ⟨by rfl,?yy⟩) hHeld ?_
       case yy =>
        intro w' hSw
        try dsimp only at hSw
        go_simp<;>with_reducible rfl
       try simp only [Act.put,sL]
       refine tK 6 (v:=?_) 33 rfl rfl (Or.inl ⟨by rfl,?yy⟩) hHeld ?_
       case yy =>
        intro w' hSw
        try dsimp only at hSw
        go_simp<;>with_reducible rfl
       try simp only [Act.put,sL]
       refine tK 7 (v:=?_) 34 rfl rfl (Or.inl ⟨by rfl,?yy⟩) hHeld ?_
       case yy =>
        intro w' hSw
        try dsimp only at hSw
        go_simp<;>with_reducible rfl
       try simp only [Act.put,sL]
       refine tK 8 (v:=?_) 35 rfl rfl (Or.inl ⟨by rfl,?yy⟩) hHeld ?_
       case yy =>
        intro w' hSw
        try dsimp only at hSw
        go_simp<;>with_reducible rfl
       try simp only [Act.put,sL]
       refine wpAnyH_ready (rs:=[9]) (by kernel_rfl) (by simp) ?_
       refine AllReadyH.cons rfl (fun K hK=>?_) AllReadyH.nil
       go_simp
       skip
       clear hHeld
       refine hK.out _ _ ?hs1 (fun hHeld=>?_)
       case hs1=>exact HKS.out _ (HQ.go bB).out
       clear hK K
       try simp only [Act.put,sL]
       first|refine al_newH (s:=W.heap.size) (cs:=[.slice none 0 0,.bool false]) (ns2 ns_slice ns_bool) ?hsz ?_|refine al_newD (s:=W.heap.size) (cs:=[.slice none 0 0,.bool false]) (ns2 ns_slice ns_bool) ?hsz ?_
       case hsz=>exact (HQ.go bB).out.2.2.2.size
       intro HG
       try simp only [World.size_alloc] at HG
       refine wpAnyH_ready (rs:=[10]) (by kernel_rfl) (by simp) ?_
       refine AllReadyH.cons rfl (fun K hK=>?_) AllReadyH.nil
       obtain ⟨t0,t1⟩:=(HG.go bB).out.1.c2
       have f0:=(HG.go bB).out.1.2.1 0
       have f1:=(HG.go bB).out.1.2.1 1
       have tl:=(HG.go bB).out.1.2.2
       go_simp
       clear hHeld
       refine hK.out _ _ ?hs1 (fun hHeld=>?_)
       case hs1=>exact HKS.out _ (HQ.go bB).out
       clear hK K
       try simp only [Act.put,sL]
       refine tK 11 (v:=?_) 11 rfl rfl (Or.inl ⟨by rfl,?yy⟩) hHeld ?_
       case yy =>
        intro w' hSw
        try dsimp only at hSw
        go_simp<;>with_reducible rfl
       try simp only [Act.put,sL]
       refine tK 12 (v:=?_) 12 rfl rfl (Or.inl ⟨by rfl,?yy⟩) hHeld ?_
       case yy =>
        intro w' hSw
        try dsimp only at hSw
        go_simp<;>with_reducible rfl
       try simp only [Act.put,sL]
       refine wpAnyH_done (by kernel_rfl) ?_ _
       simp only [OnlyN]
       rename_i hmeet
       refine hmeet _ _ ?_
       gi_meet
       exact ⟨_,C,m,rfl,rfl,rfl,lh ⟨HG.out.2.2,BX.new _ [_,_] _ rfl,(HRT.go bB).out,(HQ.go bB).out.2.2.2⟩⟩
      ·skip
       go_simp
       skip
       clear hHeld
       refine hK.out _ _ ?hs1 (fun hHeld=>?_)
       case hs1=>exact HKS.out _ (HQ.go bB).out
       clear hK K
       try simp only [Act.put,sL]
       first|refine al_newH (s:=W.heap.size) (cs:=[.slice none 0 0,.bool false]) (ns2 ns_slice ns_bool) ?hsz ?_|refine al_newD (s:=W.heap.size) (cs:=[.slice none 0 0,.bool false]) (ns2 ns_slice ns_bool) ?hsz ?_
       case hsz=>exact (HQ.go bB).out.2.2.2.size
       intro HG
       try simp only [World.size_alloc] at HG
       refine wpAnyH_ready (rs:=[4]) (by kernel_rfl) (by simp) ?_
       refine AllReadyH.cons rfl (fun K hK=>?_) AllReadyH.nil
       go_simp
       (go_at_call 38;refine (HAG.out _ (HQ.go bB).out.2.1 (HQ.go bB).out.2.2.1).mono ?_;rintro x w7 ⟨C,m,rfl,hrt,hb7⟩;replace HQ:=HQ.go2 bB hb7;(try replace HG:=HG.go2 bB hb7);have HRT:At (fun V=>RT V C m (agP e f).1) w7:=⟨kept_rt C m _,hrt⟩;clear hb7 hrt)
       clear hHeld
       refine hK.out _ _ ?hs1 (fun hHeld=>?_)
       case hs1=>exact HKS.out _ (HQ.go bB).out
       clear hK K
       try simp only [Act.put,sL]
       refine tK 5 (v:=?_) 27 rfl rfl (Or.inl ⟨by rfl,?yy⟩) hHeld ?_
       case yy =>
        intro w' hSw
        try dsimp only at hSw
        go_simp<;>with_reducible rfl
       try simp only [Act.put,sL]
       refine tK 6 (v:=?_) 33 rfl rfl (Or.inl ⟨by rfl,?yy⟩) hHeld ?_
       case yy =>
        intro w' hSw
        try dsimp only at hSw
        go_simp<;>with_reducible rfl
       try simp only [Act.put,sL]
       refine tK 7 (v:=?_) 34 rfl rfl (Or.inl ⟨by rfl,?yy⟩) hHeld ?_
       case yy =>
        intro w' hSw
        try dsimp only at hSw
        go_simp<;>with_reducible rfl
       try simp only [Act.put,sL]
       refine tK 8 (v:=?_) 35 rfl rfl (Or.inl ⟨by rfl,?yy⟩) hHeld ?_
       case yy =>
        intro w' hSw
        try dsimp only at hSw
        go_simp<;>with_reducible rfl
       try simp only [Act.put,sL]
       refine wpAnyH_ready (rs:=[10]) (by kernel_rfl) (by simp) ?_
       refine AllReadyH.cons rfl (fun K hK=>?_) AllReadyH.nil
       obtain ⟨t0,t1⟩:=(HG.go bB).out.1.c2
       have f0:=(HG.go bB).out.1.2.1 0
       have f1:=(HG.go bB).out.1.2.1 1
       have tl:=(HG.go bB).out.1.2.2
       go_simp
       clear hHeld
       refine hK.out _ _ ?hs1 (fun hHeld=>?_)
       case hs1=>exact HK2.out _ _ _ _ (HQ.go bB).out (Nat.ne_of_gt (Nat.lt_of_lt_of_le hBxl HG.out.2.2)) (Nat.ne_of_gt (Nat.lt_of_lt_of_le hByl HG.out.2.2))
       clear hK K
       try simp only [Act.put,sL]
       refine tK 11 (v:=?_) 11 rfl rfl (Or.inl ⟨by rfl,?yy⟩) hHeld ?_
       case yy =>
        intro w' hSw
        try dsimp only at hSw
        go_simp<;>with_reducible rfl
       try simp only [Act.put,sL]
       refine tK 12 (v:=?_) 12 rfl rfl (Or.inl ⟨by rfl,?yy⟩) hHeld ?_
       case yy =>
        intro w' hSw
        try dsimp only at hSw
        go_simp<;>with_reducible rfl
       try simp only [Act.put,sL]
       refine wpAnyH_done (by kernel_rfl) ?_ _
       simp only [OnlyN]
       rename_i hmeet
       refine hmeet _ _ ?_
       gi_meet
       exact ⟨_,C,m,rfl,rfl,rfl,lh ⟨HG.out.2.2,(HG.go bB).out.1.set2 _ _,(HRT.go bB).out.ch (ch_set2 (K:=fun _=>True) trivial (HG.go bB).out.2.1 ns_slice _),((HQ.go bB).out.2.2.2.setCell (p:=⟨_,0,none⟩) HG.out.2.2 _).setCell (p:=⟨_,1,none⟩) HG.out.2.2 _⟩⟩
     ·skip
      go_simp
      skip
      clear hHeld
      refine hK.out _ _ ?hs1 (fun hHeld=>?_)
      case hs1=>exact HKS.out _ (HQ.go bB).out
      clear hK K
      try simp only [Act.put,sL]
      first|refine al_newH (s:=W.heap.size) (cs:=[.slice none 0 0,.bool false]) (ns2 ns_slice ns_bool) ?hsz ?_|refine al_newD (s:=W.heap.size) (cs:=[.slice none 0 0,.bool false]) (ns2 ns_slice ns_bool) ?hsz ?_
      case hsz=>exact (HQ.go bB).out.2.2.2.size
      intro HG
      try simp only [World.size_alloc] at HG
      refine wpAnyH_ready (rs:=[3]) (by kernel_rfl) (by simp) ?_
      refine AllReadyH.cons rfl (fun K hK=>?_) AllReadyH.nil
      go_simp
      (go_at_call 29;with_reducible refine (HLF.out _).mono ?_;rintro x w6 ⟨rfl,hb6⟩;replace HQ:=HQ.go2 bB hb6;(try replace HG:=HG.go2 bB hb6);clear hb6)
      clear hHeld
      refine hK.out _ _ ?hs1 (fun hHeld=>?_)
      case hs1=>exact HKS.out _ (HQ.go bB).out
      clear hK K
      try simp only [Act.put,sL]
      refine wpAnyH_ready (rs:=[4]) (by kernel_rfl) (by simp) ?_
      refine AllReadyH.cons rfl (fun K hK=>?_) AllReadyH.nil
      go_simp
      (go_at_call 38;refine (HAG.out _ (HQ.go bB).out.2.1 (HQ.go bB).out.2.2.1).mono ?_;rintro x w7 ⟨C,m,rfl,hrt,hb7⟩;replace HQ:=HQ.go2 bB hb7;(try replace HG:=HG.go2 bB hb7);have HRT:At (fun V=>RT V C m (agP e f).1) w7:=⟨kept_rt C m _,hrt⟩;clear hb7 hrt)
      clear hHeld
      refine hK.out _ _ ?hs1 (fun hHeld=>?_)
      case hs1=>exact HKS.out _ (HQ.go bB).out
      clear hK K
      try simp only [Act.put,sL]
      refine tK 5 (v:=?_) 27 rfl rfl (Or.inl ⟨by rfl,?yy⟩) hHeld ?_
      case yy =>
       intro w' hSw
       try dsimp only at hSw
       go_simp<;>with_reducible rfl
      try simp only [Act.put,sL]
      refine tK 6 (v:=?_) 33 rfl rfl (Or.inl ⟨by rfl,?yy⟩) hHeld ?_
      case yy =>
       intro w' hSw
       try dsimp only at hSw
       go_simp<;>with_reducible rfl
      try simp only [Act.put,sL]
      refine tK 7 (v:=?_) 34 rfl rfl (Or.inl ⟨by rfl,?yy⟩) hHeld ?_
      case yy =>
       intro w' hSw
       try dsimp only at hSw
       go_simp<;>with_reducible rfl
      try simp only [Act.put,sL]
      refine tK 8 (v:=?_) 35 rfl rfl (Or.inl ⟨by rfl,?yy⟩) hHeld ?_
      case yy =>
       intro w' hSw
       try dsimp only at hSw
       go_simp<;>with_reducible rfl
      try simp only [Act.put,sL]
      refine wpAnyH_ready (rs:=[10]) (by kernel_rfl) (by simp) ?_
      refine AllReadyH.cons rfl (fun K hK=>?_) AllReadyH.nil
      obtain ⟨t0,t1⟩:=(HG.go bB).out.1.c2
      have f0:=(HG.go bB).out.1.2.1 0
      have f1:=(HG.go bB).out.1.2.1 1
      have tl:=(HG.go bB).out.1.2.2
      go_simp
      clear hHeld
      refine hK.out _ _ ?hs1 (fun hHeld=>?_)
      case hs1=>exact HK2.out _ _ _ _ (HQ.go bB).out (Nat.ne_of_gt (Nat.lt_of_lt_of_le hBxl HG.out.2.2)) (Nat.ne_of_gt (Nat.lt_of_lt_of_le hByl HG.out.2.2))
      clear hK K
      try simp only [Act.put,sL]
      refine tK 11 (v:=?_) 11 rfl rfl (Or.inl ⟨by rfl,?yy⟩) hHeld ?_
      case yy =>
       intro w' hSw
       try dsimp only at hSw
       go_simp<;>with_reducible rfl
      try simp only [Act.put,sL]
      refine tK 12 (v:=?_) 12 rfl rfl (Or.inl ⟨by rfl,?yy⟩) hHeld ?_
      case yy =>
       intro w' hSw
       try dsimp only at hSw
       go_simp<;>with_reducible rfl
      try simp only [Act.put,sL]
      refine wpAnyH_done (by kernel_rfl) ?_ _
      simp only [OnlyN]
      rename_i hmeet
      refine hmeet _ _ ?_
      gi_meet
      exact ⟨_,C,m,rfl,rfl,rfl,lh ⟨HG.out.2.2,(HG.go bB).out.1.set2 _ _,(HRT.go bB).out.ch (ch_set2 (K:=fun _=>True) trivial (HG.go bB).out.2.1 ns_slice _),((HQ.go bB).out.2.2.2.setCell (p:=⟨_,0,none⟩) HG.out.2.2 _).setCell (p:=⟨_,1,none⟩) HG.out.2.2 _⟩⟩
    ·skip
     go_simp
     skip
     clear hHeld
     refine hK.out _ _ ?hs1 (fun hHeld=>?_)
     case hs1=>exact HKS.out _ (HQ.go bB).out
     clear hK K
     try simp only [Act.put,sL]
     first|refine al_newH (s:=W.heap.size) (cs:=[.slice none 0 0,.bool false]) (ns2 ns_slice ns_bool) ?hsz ?_|refine al_newD (s:=W.heap.size) (cs:=[.slice none 0 0,.bool false]) (ns2 ns_slice ns_bool) ?hsz ?_
     case hsz=>exact (HQ.go bB).out.2.2.2.size
     intro HG
     try simp only [World.size_alloc] at HG
     refine wpAnyH_ready (rs:=[1]) (by kernel_rfl) (by simp) ?_
     refine AllReadyH.cons rfl (fun K hK=>?_) AllReadyH.nil
     go_simp
     (go_at_call 29;with_reducible refine (HLE.out _).mono ?_;rintro x w5 ⟨rfl,hb5⟩;replace HQ:=HQ.go2 bB hb5;(try replace HG:=HG.go2 bB hb5);clear hb5)
     clear hHeld
     refine hK.out _ _ ?hs1 (fun hHeld=>?_)
     case hs1=>exact HKS.out _ (HQ.go bB).out
     clear hK K
     try simp only [Act.put,sL]
     refine wpAnyH_ready (rs:=[3]) (by kernel_rfl) (by simp) ?_
     refine AllReadyH.cons rfl (fun K hK=>?_) AllReadyH.nil
     go_simp
     (go_at_call 29;with_reducible refine (HLF.out _).mono ?_;rintro x w6 ⟨rfl,hb6⟩;replace HQ:=HQ.go2 bB hb6;(try replace HG:=HG.go2 bB hb6);clear hb6)
     clear hHeld
     refine hK.out _ _ ?hs1 (fun hHeld=>?_)
     case hs1=>exact HKS.out _ (HQ.go bB).out
     clear hK K
     try simp only [Act.put,sL]
     refine wpAnyH_ready (rs:=[4]) (by kernel_rfl) (by simp) ?_
     refine AllReadyH.cons rfl (fun K hK=>?_) AllReadyH.nil
     go_simp
     (go_at_call 38;refine (HAG.out _ (HQ.go bB).out.2.1 (HQ.go bB).out.2.2.1).mono ?_;rintro x w7 ⟨C,m,rfl,hrt,hb7⟩;replace HQ:=HQ.go2 bB hb7;(try replace HG:=HG.go2 bB hb7);have HRT:At (fun V=>RT V C m (agP e f).1) w7:=⟨kept_rt C m _,hrt⟩;clear hb7 hrt)
     clear hHeld
     refine hK.out _ _ ?hs1 (fun hHeld=>?_)
     case hs1=>exact HKS.out _ (HQ.go bB).out
     clear hK K
     try simp only [Act.put,sL]
     refine tK 5 (v:=?_) 27 rfl rfl (Or.inl ⟨by rfl,?yy⟩) hHeld ?_
     case yy =>
      intro w' hSw
      try dsimp only at hSw
      go_simp<;>with_reducible rfl
     try simp only [Act.put,sL]
     refine tK 6 (v:=?_) 33 rfl rfl (Or.inl ⟨by rfl,?yy⟩) hHeld ?_
     case yy =>
      intro w' hSw
      try dsimp only at hSw
      go_simp<;>with_reducible rfl
     try simp only [Act.put,sL]
     refine tK 7 (v:=?_) 34 rfl rfl (Or.inl ⟨by rfl,?yy⟩) hHeld ?_
     case yy =>
      intro w' hSw
      try dsimp only at hSw
      go_simp<;>with_reducible rfl
     try simp only [Act.put,sL]
     refine tK 8 (v:=?_) 35 rfl rfl (Or.inl ⟨by rfl,?yy⟩) hHeld ?_
     case yy =>
      intro w' hSw
      try dsimp only at hSw
      go_simp<;>with_reducible rfl
     try simp only [Act.put,sL]
     refine wpAnyH_ready (rs:=[10]) (by kernel_rfl) (by simp) ?_
     refine AllReadyH.cons rfl (fun K hK=>?_) AllReadyH.nil
     obtain ⟨t0,t1⟩:=(HG.go bB).out.1.c2
     have f0:=(HG.go bB).out.1.2.1 0
     have f1:=(HG.go bB).out.1.2.1 1
     have tl:=(HG.go bB).out.1.2.2
     go_simp
     clear hHeld
     refine hK.out _ _ ?hs1 (fun hHeld=>?_)
     case hs1=>exact HK2.out _ _ _ _ (HQ.go bB).out (Nat.ne_of_gt (Nat.lt_of_lt_of_le hBxl HG.out.2.2)) (Nat.ne_of_gt (Nat.lt_of_lt_of_le hByl HG.out.2.2))
     clear hK K
     try simp only [Act.put,sL]
     refine tK 11 (v:=?_) 11 rfl rfl (Or.inl ⟨by rfl,?yy⟩) hHeld ?_
     case yy =>
      intro w' hSw
      try dsimp only at hSw
      go_simp<;>with_reducible rfl
     try simp only [Act.put,sL]
     refine tK 12 (v:=?_) 12 rfl rfl (Or.inl ⟨by rfl,?yy⟩) hHeld ?_
     case yy =>
      intro w' hSw
      try dsimp only at hSw
      go_simp<;>with_reducible rfl
     try simp only [Act.put,sL]
     refine wpAnyH_done (by kernel_rfl) ?_ _
     simp only [OnlyN]
     rename_i hmeet
     refine hmeet _ _ ?_
     gi_meet
     exact ⟨_,C,m,rfl,rfl,rfl,lh ⟨HG.out.2.2,(HG.go bB).out.1.set2 _ _,(HRT.go bB).out.ch (ch_set2 (K:=fun _=>True) trivial (HG.go bB).out.2.1 ns_slice _),((HQ.go bB).out.2.2.2.setCell (p:=⟨_,0,none⟩) HG.out.2.2 _).setCell (p:=⟨_,1,none⟩) HG.out.2.2 _⟩⟩
   case rest =>
    obtain ⟨g,C,m,rfl,rfl,rfl,HC⟩:=hcut
    clear HAG HLE HLF HKS HK2 y0 y1 y2 y3 y4 z0 z1 z2 z3 z4
    have hcl:W.heap.size≤wc.heap.size:=HC.out.2.2.2.size
    have x4:=(H4.out.below HC.out.2.2.2).1.c1
    have x5:=(H5.out.below HC.out.2.2.2).1.c1
    have p4:=(H4.out.below HC.out.2.2.2).1.2.1 0
    have p5:=(H5.out.below HC.out.2.2.2).1.2.1 0
    by_cases hn:agN e f=0
    ·rw [hn]
     cases ho:agO e f with
     | false =>
      have HGB:Hid (agB e f=false):=lh (by unfold agB;rw [hn,ho];rfl)
      have HGS:Hid (agS (agC a b (pre.map (·.1))) e f=agC a b (pre.map (·.1))):=lh (by unfold agS;rw [ho];rfl)
      clear HQ
      gi_wp2_with fail
      exact ag_on HB.out hs H4.out H5.out HN.out HKC.out HPR.out HGB.out HC.out.2.2.2 HGS.out
     | true =>
      have HPS:=lh (HPZ.out ho)
      have hh1:e.2.2.length≤64:=HPE.out.1.2.2.2
      have hh2:f.2.2.length≤64:=HPF.out.1.2.2.2
      have HCC:=lh (fun q V (hbx:BX V q [.slice H e.2.2.length n,.slice H' f.2.2.length n']) (k1:BT V H n e.2.2) (k2:BT V H' n' f.2.2)=>concat2_any q 2 H H' n n' e.2.2 f.2.2 V hbx k1 k2 (by omega) (Nat.le_refl _) (by omega))
      have HRD:=lh (fun A5 c5 V (k1:RT V C m (agP e f).1) (k2:BT V A5 c5 (e.2.2++f.2.2))=>(rdc_any C A5 m c5 (agP e f) (e.2.2++f.2.2) V k1 k2 HPS.out (fun q hq=>by
       rcases List.mem_append.1 hq with hq|hq
       ·exact szP_of (HPE.out.1.2.2.1 q hq) (HPE.out.2.2.2 q hq) (by omega)
       ·exact szP_of (HPF.out.1.2.2.1 q hq) (HPF.out.2.2.2 q hq) (by omega)) (by rw [List.length_append];omega)).mono fun _ _ h=>h.one)
      obtain ⟨hs0,HHS⟩:∃ hs0,Hid (e.2.2++f.2.2=hs0):=⟨_,lh rfl⟩
      rw [HHS.out] at HCC HRD
      have HQ2:At (fun V=>(BX V g [.slice C (agP e f).1.length m,.bool (agP e f).2]∧BX V Bx [.slice A e.1.1.length c,.bool e.1.2,.slice B e.2.1.1.length d,.bool e.2.1.2,.slice H e.2.2.length n]∧BX V By [.slice A' f.1.1.length c',.bool f.1.2,.slice B' f.2.1.1.length d',.bool f.2.1.2,.slice H' f.2.2.length n'])∧(RT V C m (agP e f).1∧BT V H n e.2.2∧BT V H' n' f.2.2)∧ML V∧Below wc.heap.size wc V) wc :=
       ⟨fun X Y h hb=>⟨⟨h.1.1.below hb,h.1.2.1.below hb,h.1.2.2.below hb⟩,⟨h.2.1.1.below hb,h.2.1.2.1.below hb,h.2.1.2.2.below hb⟩,h.2.2.1.below hb,go3 h.2.2.2 hb⟩,⟨HC.out.2.1,(HQ.go HC.out.2.2.2).out.1.1,(HQ.go HC.out.2.2.2).out.1.2⟩,⟨HC.out.2.2.1,(HQ.go HC.out.2.2.2).out.2.1.1.2.2,(HQ.go HC.out.2.2.2).out.2.1.2.2.2⟩,(HQ.go HC.out.2.2.2).out.2.2.1,Below.refl _ _⟩
      clear HQ
      have HQ:=HQ2
      clear HQ2
      have HKS:Hid (∀ V,((BX V g [.slice C (agP e f).1.length m,.bool (agP e f).2]∧BX V Bx [.slice A e.1.1.length c,.bool e.1.2,.slice B e.2.1.1.length d,.bool e.2.1.2,.slice H e.2.2.length n]∧BX V By [.slice A' f.1.1.length c',.bool f.1.2,.slice B' f.2.1.1.length d',.bool f.2.1.2,.slice H' f.2.2.length n'])∧(RT V C m (agP e f).1∧BT V H n e.2.2∧BT V H' n' f.2.2)∧ML V∧Below wc.heap.size wc V)→(V.cell? ⟨g,0,none⟩=some (.slice C (agP e f).1.length m)∧V.cell? ⟨g,1,none⟩=some (.bool (agP e f).2))∧V.cell? ⟨Bx,4,none⟩=some (.slice H e.2.2.length n)∧V.cell? ⟨By,4,none⟩=some (.slice H' f.2.2.length n')):=lh (fun V h=>⟨h.1.1.c2,h.1.2.1.1 4 _ rfl,h.1.2.2.1 4 _ rfl⟩)
      have HK2:Hid (∀ V r u v z,((BX V g [.slice C (agP e f).1.length m,.bool (agP e f).2]∧BX V Bx [.slice A e.1.1.length c,.bool e.1.2,.slice B e.2.1.1.length d,.bool e.2.1.2,.slice H e.2.2.length n]∧BX V By [.slice A' f.1.1.length c',.bool f.1.2,.slice B' f.2.1.1.length d',.bool f.2.1.2,.slice H' f.2.2.length n'])∧(RT V C m (agP e f).1∧BT V H n e.2.2∧BT V H' n' f.2.2)∧ML V∧Below wc.heap.size wc V)→r≠g→r≠Bx→r≠By→((((V.setCell ⟨r,0,none⟩ u).setCell ⟨r,1,none⟩ v).setCell ⟨r,2,none⟩ z).cell? ⟨g,0,none⟩=some (.slice C (agP e f).1.length m)∧(((V.setCell ⟨r,0,none⟩ u).setCell ⟨r,1,none⟩ v).setCell ⟨r,2,none⟩ z).cell? ⟨g,1,none⟩=some (.bool (agP e f).2))∧(((V.setCell ⟨r,0,none⟩ u).setCell ⟨r,1,none⟩ v).setCell ⟨r,2,none⟩ z).cell? ⟨Bx,4,none⟩=some (.slice H e.2.2.length n)∧(((V.setCell ⟨r,0,none⟩ u).setCell ⟨r,1,none⟩ v).setCell ⟨r,2,none⟩ z).cell? ⟨By,4,none⟩=some (.slice H' f.2.2.length n')):=lh (fun V r u v z h h0 h1 h2=>by
       obtain ⟨⟨e0,e1⟩,e2,e3⟩:=HKS.out V h
       rw [set3_other _ _ _ (Ne.symm h0),set3_other _ _ _ (Ne.symm h0),set3_other _ _ _ (Ne.symm h1),set3_other _ _ _ (Ne.symm h2)]
       exact ⟨⟨e0,e1⟩,e2,e3⟩)
      have hgl:g<wc.heap.size:=HC.out.2.1.2.2
      have hBxl2:Bx<wc.heap.size:=Nat.lt_of_lt_of_le hBxl hcl
      have hByl2:By<wc.heap.size:=Nat.lt_of_lt_of_le hByl hcl
      have hwg:W.heap.size≤g:=HC.out.1
      obtain ⟨⟨y0,y1⟩,y2,y3⟩:=HKS.out wc HQ.out
      gi_upto_region 12 with fail
      obtain ⟨wd,rfl⟩:∃ wd,wd=wc:=⟨wc,rfl⟩
      gi_cut [12,13,14] from 61 (fun s12 s13 s14 wx=>∃ (r:Nat) (B5:Option Addr) (n5 d5:Nat) (q5:Bool) (A6:Option Addr) (m5 c6:Nat) (v5:Bool) (k5:Int),s12=.int .i64 k5∧s13=.pointer (some ⟨r,0,none⟩)∧s14=.bool v5∧Hid (wd.heap.size≤r∧BX wx r [.slice B5 n5 d5,.bool q5,.slice A6 m5 c6]∧RdP wd.heap.size (agP e f) hs0 B5 n5 d5 q5 A6 m5 c6 v5 k5 wx∧Below wd.heap.size wd wx))
      case first =>
       refine wpIn_region_held (S:=fun V=>(V.cell? ⟨g,0,none⟩=some (.slice C (agP e f).1.length m)∧V.cell? ⟨g,1,none⟩=some (.bool (agP e f).2))∧V.cell? ⟨Bx,4,none⟩=some (.slice H e.2.2.length n)∧V.cell? ⟨By,4,none⟩=some (.slice H' f.2.2.length n')) (by kernel_rfl) (by kernel_rfl) ?hs0 (fun hHeld=>?_)
       case hs0=>exact HKS.out _ (HQ.go (by with_reducible apply Below.drew;with_reducible exact Below.refl _ _)).out
       refine tK 0 (v:=?_) 41 rfl rfl (Or.inl ⟨by rfl,?yy⟩) hHeld ?_
       case yy =>
        intro w' hSw
        try dsimp only at hSw
        go_simp<;>with_reducible rfl
       try simp only [Act.put,sL]
       refine tK 1 (v:=?_) 42 rfl rfl (Or.inl ⟨by rfl,?yy⟩) hHeld ?_
       case yy =>
        intro w' hSw
        try dsimp only at hSw
        go_simp<;>with_reducible rfl
       try simp only [Act.put,sL]
       refine tK 2 (v:=?_) 43 rfl rfl (Or.inl ⟨by rfl,?yy⟩) hHeld ?_
       case yy =>
        intro w' hSw
        try dsimp only at hSw
        go_simp<;>with_reducible rfl
       try simp only [Act.put,sL]
       refine tK 3 (v:=?_) 44 rfl rfl (Or.inl ⟨by rfl,?yy⟩) hHeld ?_
       case yy =>
        intro w' hSw
        try dsimp only at hSw
        go_simp<;>with_reducible rfl
       try simp only [Act.put,sL]
       refine tK 4 (v:=?_) 45 rfl rfl (Or.inl ⟨by rfl,?yy⟩) hHeld ?_
       case yy =>
        intro w' hSw
        try dsimp only at hSw
        go_simp<;>with_reducible rfl
       try simp only [Act.put,sL]
       refine wpAnyH_ready (rs:=[5,12]) (by kernel_rfl) (by simp) ?_
       refine AllReadyH.cons rfl (fun K hK=>?_) (AllReadyH.cons rfl (fun K hK=>?_) AllReadyH.nil)
       ·skip
        go_simp
        skip
        clear hHeld
        refine hK.out _ _ ?hs1 (fun hHeld=>?_)
        case hs1=>exact HKS.out _ (HQ.go bB).out
        clear hK K
        try simp only [Act.put,sL]
        first|refine al_newH (s:=0) (cs:=[.slice H e.2.2.length n,.slice H' f.2.2.length n']) (ns2 ns_slice ns_slice) (Nat.zero_le _) ?_|refine al_newD (s:=0) (cs:=[.slice H e.2.2.length n,.slice H' f.2.2.length n']) (ns2 ns_slice ns_slice) (Nat.zero_le _) ?_
        intro HBS
        try simp only [World.size_alloc] at HBS
        refine wpAnyH_ready (rs:=[6,12]) (by kernel_rfl) (by simp) ?_
        refine AllReadyH.cons rfl (fun K hK=>?_) (AllReadyH.cons rfl (fun K hK=>?_) AllReadyH.nil)
        ·skip
         go_simp
         (go_at_call 40;refine (HCC.out _ _ (HBS.go bB).out.1 (HQ.go bB).out.2.1.2.1 (HQ.go bB).out.2.1.2.2).mono ?_;rintro x w5 ⟨v5,rfl,hso,hb5⟩;replace HQ:=HQ.go2 bB hb5;(try replace HG:=HG.go2 bB hb5);obtain ⟨A5,c5,rfl,hsv,-,-⟩:=hso.read (fun _ _ h=>h);have HBT:At (fun V=>BT V A5 c5 hs0) w5:=⟨fun X Y h hb=>h.below hb,hsv.bt⟩;clear hso hsv hb5)
         clear hHeld
         refine hK.out _ _ ?hs1 (fun hHeld=>?_)
         case hs1=>exact HKS.out _ (HQ.go bB).out
         clear hK K
         try simp only [Act.put,sL]
         refine wpAnyH_ready (rs:=[7,12]) (by kernel_rfl) (by simp) ?_
         refine AllReadyH.cons rfl (fun K hK=>?_) (AllReadyH.cons rfl (fun K hK=>?_) AllReadyH.nil)
         ·skip
          go_simp
          (go_at_call 39;(try have HLT:=lh HG.out.1.2.2);refine (HRD.out _ _ _ (HQ.go bB).out.2.1.1 (HBT.go bB).out).mono ?_;rintro x w7 ⟨B5,n5,d5,q5,A6,m5,c6,v5,k5,rfl,hb7,hrd⟩;have HRP:=lh (hrd.mono (s':=wd.heap.size) ((HQ.go bB).out.2.2.2.size));have HR7:=lh hrd;replace HQ:=HQ.go2 bB hb7;(try replace HG:=HG.go2 bB hb7);clear hb7 hrd)
          clear hHeld
          refine hK.out _ _ ?hs1 (fun hHeld=>?_)
          case hs1=>exact HKS.out _ (HQ.go bB).out
          clear hK K
          try simp only [Act.put,sL]
          refine tK 8 (v:=?_) 40 rfl rfl (Or.inl ⟨by rfl,?yy⟩) hHeld ?_
          case yy =>
           intro w' hSw
           try dsimp only at hSw
           go_simp<;>with_reducible rfl
          try simp only [Act.put,sL]
          refine tK 9 (v:=?_) 49 rfl rfl (Or.inl ⟨by rfl,?yy⟩) hHeld ?_
          case yy =>
           intro w' hSw
           try dsimp only at hSw
           go_simp<;>with_reducible rfl
          try simp only [Act.put,sL]
          refine tK 10 (v:=?_) 50 rfl rfl (Or.inl ⟨by rfl,?yy⟩) hHeld ?_
          case yy =>
           intro w' hSw
           try dsimp only at hSw
           go_simp<;>with_reducible rfl
          try simp only [Act.put,sL]
          refine tK 11 (v:=?_) 51 rfl rfl (Or.inl ⟨by rfl,?yy⟩) hHeld ?_
          case yy =>
           intro w' hSw
           try dsimp only at hSw
           go_simp<;>with_reducible rfl
          try simp only [Act.put,sL]
          refine wpAnyH_ready (rs:=[12]) (by kernel_rfl) (by simp) ?_
          refine AllReadyH.cons rfl (fun K hK=>?_) AllReadyH.nil
          go_simp
          skip
          clear hHeld
          refine hK.out _ _ ?hs1 (fun hHeld=>?_)
          case hs1=>exact HKS.out _ (HQ.go bB).out
          clear hK K
          try simp only [Act.put,sL]
          first|refine al_newH (s:=wd.heap.size) (cs:=[.slice none 0 0,.bool false,.slice none 0 0]) (ns3 ns_slice ns_bool ns_slice) ?hsz ?_|refine al_newD (s:=wd.heap.size) (cs:=[.slice none 0 0,.bool false,.slice none 0 0]) (ns3 ns_slice ns_bool ns_slice) ?hsz ?_
          case hsz=>exact (HQ.go bB).out.2.2.2.size
          intro HG
          try simp only [World.size_alloc] at HG
          refine wpAnyH_ready (rs:=[13]) (by kernel_rfl) (by simp) ?_
          refine AllReadyH.cons rfl (fun K hK=>?_) AllReadyH.nil
          obtain ⟨t0,t1,t2⟩:=(HG.go bB).out.1.c3
          have f0:=(HG.go bB).out.1.2.1 0
          have f1:=(HG.go bB).out.1.2.1 1
          have f2:=(HG.go bB).out.1.2.1 2
          have tl:=(HG.go bB).out.1.2.2
          go_simp
          clear hHeld
          refine hK.out _ _ ?hs1 (fun hHeld=>?_)
          case hs1=>exact HKS.out _ (HQ.go bB).out
          clear hK K
          try simp only [Act.put,sL]
          refine tK 14 (v:=?_) 14 rfl rfl (Or.inl ⟨by rfl,?yy⟩) hHeld ?_
          case yy =>
           intro w' hSw
           try dsimp only at hSw
           go_simp<;>with_reducible rfl
          try simp only [Act.put,sL]
          refine tK 15 (v:=?_) 12 rfl rfl (Or.inl ⟨by rfl,?yy⟩) hHeld ?_
          case yy =>
           intro w' hSw
           try dsimp only at hSw
           go_simp<;>with_reducible rfl
          try simp only [Act.put,sL]
          refine wpAnyH_done (by kernel_rfl) ?_ _
          simp only [OnlyN]
          rename_i hmeet
          refine hmeet _ _ ?_
          gi_meet
          exact ⟨_,B5,n5,d5,q5,A6,m5,c6,v5,k5,rfl,rfl,rfl,lh ⟨HG.out.2.2,BX.new _ [_,_,_] _ rfl,RdP.kept _ _ _ _ _ _ _ _ _ _ _ _ _ _ HRP.out (ba _ _),(HQ.go bB).out.2.2.2⟩⟩
         ·skip
          go_simp
          skip
          clear hHeld
          refine hK.out _ _ ?hs1 (fun hHeld=>?_)
          case hs1=>exact HKS.out _ (HQ.go bB).out
          clear hK K
          try simp only [Act.put,sL]
          first|refine al_newH (s:=wd.heap.size) (cs:=[.slice none 0 0,.bool false,.slice none 0 0]) (ns3 ns_slice ns_bool ns_slice) ?hsz ?_|refine al_newD (s:=wd.heap.size) (cs:=[.slice none 0 0,.bool false,.slice none 0 0]) (ns3 ns_slice ns_bool ns_slice) ?hsz ?_
          case hsz=>exact (HQ.go bB).out.2.2.2.size
          intro HG
          try simp only [World.size_alloc] at HG
          refine wpAnyH_ready (rs:=[7]) (by kernel_rfl) (by simp) ?_
          refine AllReadyH.cons rfl (fun K hK=>?_) AllReadyH.nil
          go_simp
          (go_at_call 39;(try have HLT:=lh HG.out.1.2.2);refine (HRD.out _ _ _ (HQ.go bB).out.2.1.1 (HBT.go bB).out).mono ?_;rintro x w7 ⟨B5,n5,d5,q5,A6,m5,c6,v5,k5,rfl,hb7,hrd⟩;have HRP:=lh (hrd.mono (s':=wd.heap.size) ((HQ.go bB).out.2.2.2.size));have HR7:=lh hrd;replace HQ:=HQ.go2 bB hb7;(try replace HG:=HG.go2 bB hb7);clear hb7 hrd)
          clear hHeld
          refine hK.out _ _ ?hs1 (fun hHeld=>?_)
          case hs1=>exact HKS.out _ (HQ.go bB).out
          clear hK K
          try simp only [Act.put,sL]
          refine tK 8 (v:=?_) 40 rfl rfl (Or.inl ⟨by rfl,?yy⟩) hHeld ?_
          case yy =>
           intro w' hSw
           try dsimp only at hSw
           go_simp<;>with_reducible rfl
          try simp only [Act.put,sL]
          refine tK 9 (v:=?_) 49 rfl rfl (Or.inl ⟨by rfl,?yy⟩) hHeld ?_
          case yy =>
           intro w' hSw
           try dsimp only at hSw
           go_simp<;>with_reducible rfl
          try simp only [Act.put,sL]
          refine tK 10 (v:=?_) 50 rfl rfl (Or.inl ⟨by rfl,?yy⟩) hHeld ?_
          case yy =>
           intro w' hSw
           try dsimp only at hSw
           go_simp<;>with_reducible rfl
          try simp only [Act.put,sL]
          refine tK 11 (v:=?_) 51 rfl rfl (Or.inl ⟨by rfl,?yy⟩) hHeld ?_
          case yy =>
           intro w' hSw
           try dsimp only at hSw
           go_simp<;>with_reducible rfl
          try simp only [Act.put,sL]
          refine wpAnyH_ready (rs:=[13]) (by kernel_rfl) (by simp) ?_
          refine AllReadyH.cons rfl (fun K hK=>?_) AllReadyH.nil
          obtain ⟨t0,t1,t2⟩:=(HG.go bB).out.1.c3
          have f0:=(HG.go bB).out.1.2.1 0
          have f1:=(HG.go bB).out.1.2.1 1
          have f2:=(HG.go bB).out.1.2.1 2
          have tl:=(HG.go bB).out.1.2.2
          go_simp
          clear hHeld
          refine hK.out _ _ ?hs1 (fun hHeld=>?_)
          case hs1=>exact HK2.out _ _ _ _ _ (HQ.go bB).out (Nat.ne_of_gt (Nat.lt_of_lt_of_le hgl HG.out.2.2)) (Nat.ne_of_gt (Nat.lt_of_lt_of_le hBxl2 HG.out.2.2)) (Nat.ne_of_gt (Nat.lt_of_lt_of_le hByl2 HG.out.2.2))
          clear hK K
          try simp only [Act.put,sL]
          refine tK 14 (v:=?_) 14 rfl rfl (Or.inl ⟨by rfl,?yy⟩) hHeld ?_
          case yy =>
           intro w' hSw
           try dsimp only at hSw
           go_simp<;>with_reducible rfl
          try simp only [Act.put,sL]
          refine tK 15 (v:=?_) 12 rfl rfl (Or.inl ⟨by rfl,?yy⟩) hHeld ?_
          case yy =>
           intro w' hSw
           try dsimp only at hSw
           go_simp<;>with_reducible rfl
          try simp only [Act.put,sL]
          refine wpAnyH_done (by kernel_rfl) ?_ _
          simp only [OnlyN]
          rename_i hmeet
          refine hmeet _ _ ?_
          gi_meet
          exact ⟨_,B5,n5,d5,q5,A6,m5,c6,v5,k5,rfl,rfl,rfl,lh ⟨HG.out.2.2,(HG.go bB).out.1.set3 _ _ _,(HR7.out.set3 (HG.go bB).out.2.1 HLT.out ns_slice ns_bool _).mono (Nat.le_of_lt (Nat.lt_of_le_of_lt HG.out.2.2 HLT.out)),(((HQ.go bB).out.2.2.2.setCell (p:=⟨_,0,none⟩) HG.out.2.2 _).setCell (p:=⟨_,1,none⟩) HG.out.2.2 _).setCell (p:=⟨_,2,none⟩) HG.out.2.2 _⟩⟩
        ·skip
         go_simp
         skip
         clear hHeld
         refine hK.out _ _ ?hs1 (fun hHeld=>?_)
         case hs1=>exact HKS.out _ (HQ.go bB).out
         clear hK K
         try simp only [Act.put,sL]
         first|refine al_newH (s:=wd.heap.size) (cs:=[.slice none 0 0,.bool false,.slice none 0 0]) (ns3 ns_slice ns_bool ns_slice) ?hsz ?_|refine al_newD (s:=wd.heap.size) (cs:=[.slice none 0 0,.bool false,.slice none 0 0]) (ns3 ns_slice ns_bool ns_slice) ?hsz ?_
         case hsz=>exact (HQ.go bB).out.2.2.2.size
         intro HG
         try simp only [World.size_alloc] at HG
         refine wpAnyH_ready (rs:=[6]) (by kernel_rfl) (by simp) ?_
         refine AllReadyH.cons rfl (fun K hK=>?_) AllReadyH.nil
         go_simp
         (go_at_call 40;refine (HCC.out _ _ (HBS.go bB).out.1 (HQ.go bB).out.2.1.2.1 (HQ.go bB).out.2.1.2.2).mono ?_;rintro x w5 ⟨v5,rfl,hso,hb5⟩;replace HQ:=HQ.go2 bB hb5;(try replace HG:=HG.go2 bB hb5);obtain ⟨A5,c5,rfl,hsv,-,-⟩:=hso.read (fun _ _ h=>h);have HBT:At (fun V=>BT V A5 c5 hs0) w5:=⟨fun X Y h hb=>h.below hb,hsv.bt⟩;clear hso hsv hb5)
         clear hHeld
         refine hK.out _ _ ?hs1 (fun hHeld=>?_)
         case hs1=>exact HKS.out _ (HQ.go bB).out
         clear hK K
         try simp only [Act.put,sL]
         refine wpAnyH_ready (rs:=[7]) (by kernel_rfl) (by simp) ?_
         refine AllReadyH.cons rfl (fun K hK=>?_) AllReadyH.nil
         go_simp
         (go_at_call 39;(try have HLT:=lh HG.out.1.2.2);refine (HRD.out _ _ _ (HQ.go bB).out.2.1.1 (HBT.go bB).out).mono ?_;rintro x w7 ⟨B5,n5,d5,q5,A6,m5,c6,v5,k5,rfl,hb7,hrd⟩;have HRP:=lh (hrd.mono (s':=wd.heap.size) ((HQ.go bB).out.2.2.2.size));have HR7:=lh hrd;replace HQ:=HQ.go2 bB hb7;(try replace HG:=HG.go2 bB hb7);clear hb7 hrd)
         clear hHeld
         refine hK.out _ _ ?hs1 (fun hHeld=>?_)
         case hs1=>exact HKS.out _ (HQ.go bB).out
         clear hK K
         try simp only [Act.put,sL]
         refine tK 8 (v:=?_) 40 rfl rfl (Or.inl ⟨by rfl,?yy⟩) hHeld ?_
         case yy =>
          intro w' hSw
          try dsimp only at hSw
          go_simp<;>with_reducible rfl
         try simp only [Act.put,sL]
         refine tK 9 (v:=?_) 49 rfl rfl (Or.inl ⟨by rfl,?yy⟩) hHeld ?_
         case yy =>
          intro w' hSw
          try dsimp only at hSw
          go_simp<;>with_reducible rfl
         try simp only [Act.put,sL]
         refine tK 10 (v:=?_) 50 rfl rfl (Or.inl ⟨by rfl,?yy⟩) hHeld ?_
         case yy =>
          intro w' hSw
          try dsimp only at hSw
          go_simp<;>with_reducible rfl
         try simp only [Act.put,sL]
         refine tK 11 (v:=?_) 51 rfl rfl (Or.inl ⟨by rfl,?yy⟩) hHeld ?_
         case yy =>
          intro w' hSw
          try dsimp only at hSw
          go_simp<;>with_reducible rfl
         try simp only [Act.put,sL]
         refine wpAnyH_ready (rs:=[13]) (by kernel_rfl) (by simp) ?_
         refine AllReadyH.cons rfl (fun K hK=>?_) AllReadyH.nil
         obtain ⟨t0,t1,t2⟩:=(HG.go bB).out.1.c3
         have f0:=(HG.go bB).out.1.2.1 0
         have f1:=(HG.go bB).out.1.2.1 1
         have f2:=(HG.go bB).out.1.2.1 2
         have tl:=(HG.go bB).out.1.2.2
         go_simp
         clear hHeld
         refine hK.out _ _ ?hs1 (fun hHeld=>?_)
         case hs1=>exact HK2.out _ _ _ _ _ (HQ.go bB).out (Nat.ne_of_gt (Nat.lt_of_lt_of_le hgl HG.out.2.2)) (Nat.ne_of_gt (Nat.lt_of_lt_of_le hBxl2 HG.out.2.2)) (Nat.ne_of_gt (Nat.lt_of_lt_of_le hByl2 HG.out.2.2))
         clear hK K
         try simp only [Act.put,sL]
         refine tK 14 (v:=?_) 14 rfl rfl (Or.inl ⟨by rfl,?yy⟩) hHeld ?_
         case yy =>
          intro w' hSw
          try dsimp only at hSw
          go_simp<;>with_reducible rfl
         try simp only [Act.put,sL]
         refine tK 15 (v:=?_) 12 rfl rfl (Or.inl ⟨by rfl,?yy⟩) hHeld ?_
         case yy =>
          intro w' hSw
          try dsimp only at hSw
          go_simp<;>with_reducible rfl
         try simp only [Act.put,sL]
         refine wpAnyH_done (by kernel_rfl) ?_ _
         simp only [OnlyN]
         rename_i hmeet
         refine hmeet _ _ ?_
         gi_meet
         exact ⟨_,B5,n5,d5,q5,A6,m5,c6,v5,k5,rfl,rfl,rfl,lh ⟨HG.out.2.2,(HG.go bB).out.1.set3 _ _ _,(HR7.out.set3 (HG.go bB).out.2.1 HLT.out ns_slice ns_bool _).mono (Nat.le_of_lt (Nat.lt_of_le_of_lt HG.out.2.2 HLT.out)),(((HQ.go bB).out.2.2.2.setCell (p:=⟨_,0,none⟩) HG.out.2.2 _).setCell (p:=⟨_,1,none⟩) HG.out.2.2 _).setCell (p:=⟨_,2,none⟩) HG.out.2.2 _⟩⟩
       ·skip
        go_simp
        skip
        clear hHeld
        refine hK.out _ _ ?hs1 (fun hHeld=>?_)
        case hs1=>exact HKS.out _ (HQ.go bB).out
        clear hK K
        try simp only [Act.put,sL]
        first|refine al_newH (s:=wd.heap.size) (cs:=[.slice none 0 0,.bool false,.slice none 0 0]) (ns3 ns_slice ns_bool ns_slice) ?hsz ?_|refine al_newD (s:=wd.heap.size) (cs:=[.slice none 0 0,.bool false,.slice none 0 0]) (ns3 ns_slice ns_bool ns_slice) ?hsz ?_
        case hsz=>exact (HQ.go bB).out.2.2.2.size
        intro HG
        try simp only [World.size_alloc] at HG
        refine wpAnyH_ready (rs:=[5]) (by kernel_rfl) (by simp) ?_
        refine AllReadyH.cons rfl (fun K hK=>?_) AllReadyH.nil
        go_simp
        skip
        clear hHeld
        refine hK.out _ _ ?hs1 (fun hHeld=>?_)
        case hs1=>exact HKS.out _ (HQ.go bB).out
        clear hK K
        try simp only [Act.put,sL]
        first|refine al_newH (s:=0) (cs:=[.slice H e.2.2.length n,.slice H' f.2.2.length n']) (ns2 ns_slice ns_slice) (Nat.zero_le _) ?_|refine al_newD (s:=0) (cs:=[.slice H e.2.2.length n,.slice H' f.2.2.length n']) (ns2 ns_slice ns_slice) (Nat.zero_le _) ?_
        intro HBS
        try simp only [World.size_alloc] at HBS
        refine wpAnyH_ready (rs:=[6]) (by kernel_rfl) (by simp) ?_
        refine AllReadyH.cons rfl (fun K hK=>?_) AllReadyH.nil
        go_simp
        (go_at_call 40;refine (HCC.out _ _ (HBS.go bB).out.1 (HQ.go bB).out.2.1.2.1 (HQ.go bB).out.2.1.2.2).mono ?_;rintro x w5 ⟨v5,rfl,hso,hb5⟩;replace HQ:=HQ.go2 bB hb5;(try replace HG:=HG.go2 bB hb5);obtain ⟨A5,c5,rfl,hsv,-,-⟩:=hso.read (fun _ _ h=>h);have HBT:At (fun V=>BT V A5 c5 hs0) w5:=⟨fun X Y h hb=>h.below hb,hsv.bt⟩;clear hso hsv hb5)
        clear hHeld
        refine hK.out _ _ ?hs1 (fun hHeld=>?_)
        case hs1=>exact HKS.out _ (HQ.go bB).out
        clear hK K
        try simp only [Act.put,sL]
        refine wpAnyH_ready (rs:=[7]) (by kernel_rfl) (by simp) ?_
        refine AllReadyH.cons rfl (fun K hK=>?_) AllReadyH.nil
        go_simp
        (go_at_call 39;(try have HLT:=lh HG.out.1.2.2);refine (HRD.out _ _ _ (HQ.go bB).out.2.1.1 (HBT.go bB).out).mono ?_;rintro x w7 ⟨B5,n5,d5,q5,A6,m5,c6,v5,k5,rfl,hb7,hrd⟩;have HRP:=lh (hrd.mono (s':=wd.heap.size) ((HQ.go bB).out.2.2.2.size));have HR7:=lh hrd;replace HQ:=HQ.go2 bB hb7;(try replace HG:=HG.go2 bB hb7);clear hb7 hrd)
        clear hHeld
        refine hK.out _ _ ?hs1 (fun hHeld=>?_)
        case hs1=>exact HKS.out _ (HQ.go bB).out
        clear hK K
        try simp only [Act.put,sL]
        refine tK 8 (v:=?_) 40 rfl rfl (Or.inl ⟨by rfl,?yy⟩) hHeld ?_
        case yy =>
         intro w' hSw
         try dsimp only at hSw
         go_simp<;>with_reducible rfl
        try simp only [Act.put,sL]
        refine tK 9 (v:=?_) 49 rfl rfl (Or.inl ⟨by rfl,?yy⟩) hHeld ?_
        case yy =>
         intro w' hSw
         try dsimp only at hSw
         go_simp<;>with_reducible rfl
        try simp only [Act.put,sL]
        refine tK 10 (v:=?_) 50 rfl rfl (Or.inl ⟨by rfl,?yy⟩) hHeld ?_
        case yy =>
         intro w' hSw
         try dsimp only at hSw
         go_simp<;>with_reducible rfl
        try simp only [Act.put,sL]
        refine tK 11 (v:=?_) 51 rfl rfl (Or.inl ⟨by rfl,?yy⟩) hHeld ?_
        case yy =>
         intro w' hSw
         try dsimp only at hSw
         go_simp<;>with_reducible rfl
        try simp only [Act.put,sL]
        refine wpAnyH_ready (rs:=[13]) (by kernel_rfl) (by simp) ?_
        refine AllReadyH.cons rfl (fun K hK=>?_) AllReadyH.nil
        obtain ⟨t0,t1,t2⟩:=(HG.go bB).out.1.c3
        have f0:=(HG.go bB).out.1.2.1 0
        have f1:=(HG.go bB).out.1.2.1 1
        have f2:=(HG.go bB).out.1.2.1 2
        have tl:=(HG.go bB).out.1.2.2
        go_simp
        clear hHeld
        refine hK.out _ _ ?hs1 (fun hHeld=>?_)
        case hs1=>exact HK2.out _ _ _ _ _ (HQ.go bB).out (Nat.ne_of_gt (Nat.lt_of_lt_of_le hgl HG.out.2.2)) (Nat.ne_of_gt (Nat.lt_of_lt_of_le hBxl2 HG.out.2.2)) (Nat.ne_of_gt (Nat.lt_of_lt_of_le hByl2 HG.out.2.2))
        clear hK K
        try simp only [Act.put,sL]
        refine tK 14 (v:=?_) 14 rfl rfl (Or.inl ⟨by rfl,?yy⟩) hHeld ?_
        case yy =>
         intro w' hSw
         try dsimp only at hSw
         go_simp<;>with_reducible rfl
        try simp only [Act.put,sL]
        refine tK 15 (v:=?_) 12 rfl rfl (Or.inl ⟨by rfl,?yy⟩) hHeld ?_
        case yy =>
         intro w' hSw
         try dsimp only at hSw
         go_simp<;>with_reducible rfl
        try simp only [Act.put,sL]
        refine wpAnyH_done (by kernel_rfl) ?_ _
        simp only [OnlyN]
        rename_i hmeet
        refine hmeet _ _ ?_
        gi_meet
        exact ⟨_,B5,n5,d5,q5,A6,m5,c6,v5,k5,rfl,rfl,rfl,lh ⟨HG.out.2.2,(HG.go bB).out.1.set3 _ _ _,(HR7.out.set3 (HG.go bB).out.2.1 HLT.out ns_slice ns_bool _).mono (Nat.le_of_lt (Nat.lt_of_le_of_lt HG.out.2.2 HLT.out)),(((HQ.go bB).out.2.2.2.setCell (p:=⟨_,0,none⟩) HG.out.2.2 _).setCell (p:=⟨_,1,none⟩) HG.out.2.2 _).setCell (p:=⟨_,2,none⟩) HG.out.2.2 _⟩⟩
      case rest =>
       obtain ⟨r,B5,n5,d5,q5,A6,m5,c6,v5,k5,rfl,rfl,rfl,HC2⟩:=hcut
       clear HQ HKS HK2 y0 y1 y2 y3 x4 x5 p4 p5 HCC HRD
       have hVV:Below W.heap.size W wc:=go3 HC.out.2.2.2 HC2.out.2.2.2
       have HV:=lh hVV
       have x4:=(H4.out.below hVV).1.c1
       have x5:=(H5.out.below hVV).1.c1
       have p4:=(H4.out.below hVV).1.2.1 0
       have p5:=(H5.out.below hVV).1.2.1 0
       clear hVV
       rcases HC2.out.2.2.1 with ⟨hre,rfl,rfl⟩|⟨hre,rfl,rfl,rfl,rfl,rfl,hrg,hfr⟩
       ·have HGB:Hid (agB e f=true):=lh (by unfold agB;rw [ho,HHS.out,hre];simp)
        clear hre
        gi_wp2_with fail
        exact ag_ret HB.out H4.out H5.out HV.out HPR.out HGB.out
       ·have HGB:Hid (agB e f=false):=lh (by unfold agB;rw [hn,ho,HHS.out,hre];rfl)
        clear hre
        cases hv:voidF (agP e f) (redH (agP e f) hs0) with
        | true =>
         have HGS:Hid (agS (agC a b (pre.map (·.1))) e f=agC a b (pre.map (·.1))):=lh (by unfold agS;rw [ho,HHS.out,hv];rfl)
         clear hv
         gi_wp2_with fail
         exact ag_on HB.out hs H4.out H5.out HN.out HKC.out HPR.out HGB.out HV.out HGS.out
        | false =>
         have HGS:Hid (agS (agC a b (pre.map (·.1))) e f=addC (agC a b (pre.map (·.1))) (agP e f,redH (agP e f) hs0)):=lh (by unfold agS;rw [ho,HHS.out,hv];rfl)
         clear hv
         have hx:elR.R wc (avO (.slice A9 (agC a b (pre.map (·.1))).1.length c9) (fun j=>j≤w1.heap.size)) (agP e f,redH (agP e f) hs0) [.slice B5 (agP e f).1.length d5,.bool (agP e f).2,.slice A6 (redH (agP e f) hs0).length c6]:=⟨B5,d5,A6,c6,rfl,hrg,fun h0 q eq hk=>by
          have h9:=hfr q eq
          rcases hk with hk|hk
          ·have:=(HKC.out.2.own _ hk).2
           omega
          ·have hk':q.block≤w1.heap.size:=hk
           omega⟩
         have HAD:=lh (addR2_any (agC a b (pre.map (·.1))).1 (agC a b (pre.map (·.1))).2 (agP e f,redH (agP e f) hs0) B5 A6 d5 c6 w1.heap.size (w1.heap.size+1) A9 c9 wc (HKC.out.below HV.out) hx (Nat.lt_succ_self _) (by have:=HV.out.size;omega) (agC_len _ _ _))
         obtain ⟨z0,z1,z2⟩:=HC2.out.2.1.c3
         have zl:=HC2.out.2.1.2.2
         clear hx hrg hfr
         gi_wp2_with (refine ⟨trivial,?_⟩;gi_at_call 41;refine (CallsIn.inRound l (callsIn_wide.2 HAD.out)).mono ?_;rintro e9 w9 ⟨rfl,A8,c8,hco,hlo,hch,hown⟩;have HF9:=lh (And.intro hco (And.intro hlo (And.intro hch hown)));clear hco hlo hch hown)
         exact ag_add HB.out hs H4.out H5.out HN.out HKC.out HPR.out HGB.out HV.out HGS.out HF9.out.1 HF9.out.2.1 HF9.out.2.2.1 HF9.out.2.2.2 (by omega)
    ·have HGB:Hid (agB e f=true):=lh (by unfold agB;simp [hn])
     have hnb:(agN e f != 0)=true:=by simpa using hn
     clear HQ
     gi_wp2_with fail
     exact ag_ret HB.out H4.out H5.out HC.out.2.2.2 HPR.out HGB.out
  case done =>
   rintro D xs W hD hxs ⟨hB,hs,⟨k4,k5⟩,⟨A,c,kc⟩,hN⟩ hK
   rw [show agC a b (xs.map (·.1))=agrL a b from by rw [hxs];rfl] at kc
   have hp:prA agB a b=false:=prA_no fun q e f hq hpr=>by
    have:q∈xs.map (·.1):=by rw [hxs];exact List.mem_range.2 hq
    obtain ⟨y,hy,rfl⟩:=List.mem_map.1 this
    exact hN y hy e f hpr
   have HE:Hid (agrE a b=if (agrL a b).2=true then 72 else 0):=lh (by unfold agrE;rw [if_pos hz,if_neg (by rw [hp];decide)])
   have HR:=lh (resR_any (agrL a b).1 (agrL a b).2 w1.heap.size (w1.heap.size+1) A c W kc)
   obtain ⟨A2,c2,e2,hsv,-⟩:=kc.2.read (fun b hb hk=>by omega)
   cases e2
   have HS:=lh hsv
   have HB:=lh hB
   have H4:=lh k4
   have H5:=lh k5
   have hg4:w.heap.size<w1.heap.size:=by omega
   clear hp hN hxs hB k4 k5 kc hsv b4 b5 hco hx1 hx2 hno hr1 hr2 hsf ha hb oka okb hm hSZ hSP hB0 he1 he2 HB1 HB2 HX1 HX2 HCK
   obtain ⟨L,HL⟩:∃ L,Hid ((agrL a b).1=L):=⟨_,lh rfl⟩
   obtain ⟨full,HF⟩:∃ full,Hid ((agrL a b).2=full):=⟨_,lh rfl⟩
   rw [HF.out] at HE HR
   rw [HL.out] at HR HS
   have key:∀ (w5:World) (v n:Value),nsV v→Below W.heap.size W w5→BX (((w5.setCell ⟨w.heap.size,0,none⟩ v).setCell ⟨w.heap.size+1,0,none⟩ n).putObj D (.deferred none)) w.heap.size [v]∧BX (((w5.setCell ⟨w.heap.size,0,none⟩ v).setCell ⟨w.heap.size+1,0,none⟩ n).putObj D (.deferred none)) (w.heap.size+1) [n]∧Below w.heap.size w (((w5.setCell ⟨w.heap.size,0,none⟩ v).setCell ⟨w.heap.size+1,0,none⟩ n).putObj D (.deferred none))∧SV elR (((w5.setCell ⟨w.heap.size,0,none⟩ v).setCell ⟨w.heap.size+1,0,none⟩ n).putObj D (.deferred none)) kN A c L∧((w5.setCell ⟨w.heap.size,0,none⟩ v).setCell ⟨w.heap.size+1,0,none⟩ n).heap[D]? = some (.deferred (some [])):=fun w5 v n hv hb5=>by
    have hko:KeepsOthers w5 ((w5.setCell ⟨w.heap.size,0,none⟩ v).setCell ⟨w.heap.size+1,0,none⟩ n):=(KeepsOthers.setCell _ _ _).trans (KeepsOthers.setCell _ _ _)
    have hK5:=(hb5.block D (Array.getElem?_eq_some_iff.1 hK).1).trans hK
    have hK2:=hko.same D _ hK5 rfl
    have hn:NC ((w5.setCell ⟨w.heap.size,0,none⟩ v).setCell ⟨w.heap.size+1,0,none⟩ n) (some D):=fun r e=>by cases e;exact ⟨_,hK2,rfl⟩
    have hg:=grownBy_putObj' ((w5.setCell ⟨w.heap.size,0,none⟩ v).setCell ⟨w.heap.size+1,0,none⟩ n) D (.deferred none)
    have x4:=H4.out.below hb5
    have x5:=H5.out.below hb5
    have x5b:BNX (w5.setCell ⟨w.heap.size,0,none⟩ v) (w.heap.size+1) [.int .i64 0]:=⟨x5.1.other (p:=⟨w.heap.size,0,none⟩) (by simp) v,x5.2.same (heap_setCell_other _ _ _ _ (by simp))⟩
    have hch:Ch (fun j=>j≤w1.heap.size) w5 ((w5.setCell ⟨w.heap.size,0,none⟩ v).setCell ⟨w.heap.size+1,0,none⟩ n):=(Ch.set (p:=⟨w.heap.size,0,none⟩) (by show w.heap.size≤w1.heap.size;omega) x4.2 v).trans (Ch.set (p:=⟨w.heap.size+1,0,none⟩) (by show w.heap.size+1≤w1.heap.size;omega) x5b.2 n)
    refine ⟨BX.nc (BX.other (x4.1.set (j:=0) (by simp) v) (by simp) n) hg hn,BX.nc (x5b.1.set (j:=0) (by simp) n) hg hn,?_,((HS.out.below hb5).ch hch).weak.gn gnR hg hn,hK2⟩
    have hlow:=((go3 HB.out hb5).setCell (p:=⟨w.heap.size,0,none⟩) (Nat.le_refl _) v).setCell (p:=⟨w.heap.size+1,0,none⟩) (by show w.heap.size≤w.heap.size+1;omega) n
    exact hlow.grown hg hlow.size (fun k e=>by cases e;omega)
   have HKY:=lh key
   clear key
   cases full with
   | true =>
    simp only [if_true] at HR ⊢
    gi_wp2_with (refine ⟨trivial,?_⟩;gi_at_call 42;refine (callsIn_wide.2 HR.out).mono ?_;rintro e w5 ⟨rfl,hb5⟩;have HB5:=lh hb5;have x4:=(H4.out.below hb5).1.c1;have x5:=(H5.out.below hb5).1.c1;have f4:=(H4.out.below hb5).1.2.1 0;have f5:=(H5.out.below hb5).1.2.1 0;clear hb5)
    obtain ⟨y4,y5,yb,ys,yk⟩:=HKY.out w5 (.slice none 0 0) (.int .i64 72) ns_slice HB5.out
    refine ⟨by simp,.inl ⟨_,_,rfl,run_takeDeferred yk,?_⟩⟩
    have u4:=y4.c1
    have u5:=y5.c1
    refine ⟨.tuple #[.slice none 0 0,.int .i64 72],by simp [results,Tryz.results16,go_sem,u4,u5],RetAm.bad HE.out (by decide) rfl yb⟩
   | false =>
    simp only [Bool.false_eq_true,if_false] at HR ⊢
    gi_wp2_with (refine ⟨trivial,?_⟩;gi_at_call 42;refine (callsIn_wide.2 HR.out).mono ?_;rintro e w5 ⟨rfl,hb5⟩;have HB5:=lh hb5;have x4:=(H4.out.below hb5).1.c1;have x5:=(H5.out.below hb5).1.c1;have f4:=(H4.out.below hb5).1.2.1 0;have f5:=(H5.out.below hb5).1.2.1 0;clear hb5)
    obtain ⟨y4,y5,yb,ys,yk⟩:=HKY.out w5 (.slice A L.length c) (.int .i64 0) ns_slice HB5.out
    refine ⟨by simp,.inl ⟨_,_,rfl,run_takeDeferred yk,?_⟩⟩
    have u4:=y4.c1
    have u5:=y5.c1
    refine ⟨.tuple #[.slice A L.length c,.int .i64 0],by simp [results,Tryz.results16,go_sem,u4,u5],RetAm.good HE.out HL.out rfl ys yb⟩
  case stop =>
   rintro D cd pre W hD ⟨k,hk⟩ ⟨rfl,⟨q,hq,e,f,hpr,hbad⟩,⟨x4,x5⟩,hB⟩ hK
   have HE:Hid (agrE a b=72):=lh (by unfold agrE;rw [if_pos hz,if_pos (prA_yes q.2 hpr hbad)])
   gi_wp2
   refine ⟨by simp,.inl ⟨_,_,rfl,run_takeDeferred hK,?_⟩⟩
   have hn:NC W (some D):=put_nc hK
   have u4:=(BX.nc x4 (grownBy_putObj' _ D (.deferred none)) hn).c1
   have u5:=(BX.nc x5 (grownBy_putObj' _ D (.deferred none)) hn).c1
   refine ⟨.tuple #[.slice none 0 0,.int .i64 72],by simp [results,Tryz.results16,go_sem,u4,u5],?_⟩
   exact RetAm.bad HE.out (by decide) rfl (hB.grown (grownBy_putObj' _ D (.deferred none)) hB.size (fun k e=>by cases e;omega))
 ·have HE:Hid (agrE a b=chkMs [a,b]):=lh (if_neg hz)
  have hzb:(chkMs [a,b] != 0)=true:=by simpa using hz
  have H4:At (fun W=>BX W w.heap.size [.slice none 0 0]∧BX W (w.heap.size+1) [.int .i64 0]∧Below w.heap.size w W) ((w.alloc (.cells #[.slice none 0 0] 41)).alloc (.cells #[.int .i64 0] 26)):=⟨fun X Y h hb=>⟨h.1.below hb,h.2.1.below hb,go3 h.2.2 hb⟩,(BX.new w [_] _ rfl).below bB,BX.new _ [_] _ (by simp),bB⟩
  clear ha hb oka okb hm hSZ hSP
  generalize chkMs [a,b]=n at *
  gi_wp2_with (refine ⟨trivial,?_⟩;gi_at_call 23;refine (callsIn_wide.2 (HCK.out _ _ bB (BX.new _ [_,_] _ (by simp)))).mono ?_;rintro x w1 ⟨rfl,hb1⟩;replace H4:=H4.go2 bB hb1;have x4:=H4.out.1.c1;have x5:=H4.out.2.1.c1;have f4:=H4.out.1.2.1 0;have f5:=H4.out.2.1.2.1 0;clear hb1)
  have hle:w.heap.size≤w1.heap.size:=H4.out.2.2.size
  have y4:BX ((w1.setCell ⟨w.heap.size,0,none⟩ (.slice none 0 0)).setCell ⟨w.heap.size+1,0,none⟩ (.int .i64 n)) w.heap.size [.slice none 0 0]:=BX.other (H4.out.1.set (j:=0) (by simp) _) (by simp) _
  have y5:BX ((w1.setCell ⟨w.heap.size,0,none⟩ (.slice none 0 0)).setCell ⟨w.heap.size+1,0,none⟩ (.int .i64 n)) (w.heap.size+1) [.int .i64 n]:=(BX.other (p:=⟨w.heap.size,0,none⟩) H4.out.2.1 (by simp) _).set (j:=0) (by simp) _
  have u4:=y4.c1
  have u5:=y5.c1
  refine ⟨.tuple #[.slice none 0 0,.int .i64 n],by simp [results,Tryz.results16,go_sem,u4,u5],RetAm.bad HE.out hz rfl ?_⟩
  exact (H4.out.2.2.setCell (p:=⟨w.heap.size,0,none⟩) (Nat.le_refl _) _).setCell (p:=⟨w.heap.size+1,0,none⟩) (by show w.heap.size≤w.heap.size+1;omega) _
end Go.Proofs.YtelkmeiepliecaaGreatDoor

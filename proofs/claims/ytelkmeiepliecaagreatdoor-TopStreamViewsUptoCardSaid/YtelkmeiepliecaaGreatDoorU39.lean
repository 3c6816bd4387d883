/-
  Part 39 of the proof.
-/
import Derived.Test.YtelkmeiepliecaaGreatDoorU38
set_option linter.unusedSimpArgs false
set_option linter.unusedVariables false
set_option maxHeartbeats 16000000
namespace Go.Proofs.YtelkmeiepliecaaGreatDoor
open Pm
open Go.RowKit
def pcV (q:Pc) (B:Option Addr) (d:Nat) (A:Option Addr) (c:Nat) (C:Option Addr) (n:Nat) (D:Option Addr) (m:Nat):List Value :=
 [.slice B q.1.1.1.length d,.bool q.1.1.2,.slice A q.1.2.length c,.int .i64 q.2.1,.bool false,.slice C q.2.2.1.1.length n,.bool q.2.2.1.2,.slice D q.2.2.2.1.length m,.bool q.2.2.2.2]
def PG (w:World) (q:Pc) (B:Option Addr) (d:Nat) (A:Option Addr) (c:Nat) (C:Option Addr) (n:Nat) (D:Option Addr) (m:Nat):Prop:=RG w q.1 B d A c∧RT w C n q.2.2.1.1∧RT w D m q.2.2.2.1
theorem PG.below {w w':World} {q:Pc} {B A C D:Option Addr} {d c n m:Nat} (h:PG w q B d A c C n D m) (hb:Below w.heap.size w w'):PG w' q B d A c C n D m:=⟨h.1.below hb,h.2.1.below hb,h.2.2.below hb⟩
theorem pcV_one (q:Pc) (B:Option Addr) (d:Nat) (A:Option Addr) (c:Nat) (C:Option Addr) (n:Nat) (D:Option Addr) (m:Nat):∀ u∈pcV q B d A c C n D m,u.oneCell'=true∧nsV u:=fun u hu=>by
 simp only [pcV,List.mem_cons,List.not_mem_nil,or_false] at hu
 rcases hu with rfl|rfl|rfl|rfl|rfl|rfl|rfl|rfl|rfl<;>exact ⟨rfl,fun x e=>by cases e⟩
def elPc:El Pc where
 size:=9
 pos:=by decide
 R w K q r:=∃ B d A c C n D m,r=pcV q B d A c C n D m∧PG w q B d A c C n D m∧(0<q.1.2.length→∀ a,A=some a→¬ K a.block)
 len k:=by obtain ⟨B,d,A,c,C,n,D,m,rfl,_⟩:=k;rfl
 one k u hu:=by obtain ⟨B,d,A,c,C,n,D,m,rfl,_⟩:=k;exact (pcV_one _ _ _ _ _ _ _ _ _ u hu).1
 ns k:=by obtain ⟨B,d,A,c,C,n,D,m,rfl,_⟩:=k;exact fun u hu=>(pcV_one _ _ _ _ _ _ _ _ _ u hu).2
 below k hb:=by obtain ⟨B,d,A,c,C,n,D,m,e,k1,k2⟩:=k;exact ⟨B,d,A,c,C,n,D,m,e,k1.below hb,k2⟩
 ch k hc:=by obtain ⟨B,d,A,c,C,n,D,m,e,k1,k2⟩:=k;exact ⟨B,d,A,c,C,n,D,m,e,⟨⟨k1.1.1.ch hc,k1.1.2.ch k2 hc⟩,k1.2.1.ch hc,k1.2.2.ch hc⟩,k2⟩
 fresh k:=by
  obtain ⟨B,d,A,c,C,n,D,m,e,k1,k2⟩:=k
  refine ⟨B,d,A,c,C,n,D,m,e,k1,fun h0 a ea hb=>?_⟩
  rcases hb with hb|hb
  ·exact k2 h0 a ea hb
  ·have:=k1.1.2.lt h0 a ea
   omega
 mono k hk:=by obtain ⟨B,d,A,c,C,n,D,m,e,k1,k2⟩:=k;exact ⟨B,d,A,c,C,n,D,m,e,k1,fun h0 a ea hb=>k2 h0 a ea (hk _ hb)⟩
theorem elPcT:ElT Tryz.prog 67 71 9:=⟨Tryz.underlying67,by
 have h:(Tryz.prog.info? 71).map (fun i=>(i.zero,i.size,i.bytes))=some (some (.agg #[.slice none 0 0,.bool false,.slice none 0 0,.int .i64 0,.bool false,.slice none 0 0,.bool false,.slice none 0 0,.bool false]),9,136):=by kernel_rfl
 obtain ⟨i0,hi,hz,hs,hb⟩:=info_parts h
 refine ⟨i0,_,hi,hz,hs,by omega,rfl,fun u hu=>?_⟩
 simp only [Value.cells,List.mem_cons,List.not_mem_nil,or_false] at hu
 rcases hu with rfl|rfl|rfl|rfl|rfl|rfl|rfl|rfl|rfl<;>(intro x e;cases e)⟩
theorem SV.pc {w:World} {K:Nat→Prop} {A0:Option Addr} {c0:Nat} {ps:List Pc} (h:SV elPc w K A0 c0 ps) {j:Nat} {q:Pc} (hx:ps[j]? = some q) :
 ∃ b o B d A c C n D m,A0=some ⟨b,o,none⟩∧b<w.heap.size∧(∀ (i:Nat) (u:Value),(pcV q B d A c C n D m)[i]? = some u→w.cell? ⟨b,o+j * 9+i,none⟩=some u)∧PG w q B d A c C n D m:=by
 obtain ⟨b,o,r,ea,hlt,hc,B,d,A,c,C,n,D,m,rfl,k,_⟩:=h.at_ hx
 exact ⟨b,o,B,d,A,c,C,n,D,m,ea,hlt,hc,k⟩
def RetSd (w:World) (xs:List ByteArray) (r:Bool) (e:Ending) (w':World):Prop:=∃ B d,e=.returned (.agg #[.slice B xs.length d,.bool r])∧RT w' B d xs∧Below w.heap.size w w'
set_option maxRecDepth 100000 in
theorem stored_any (A:Option Addr) (c:Nat) (xs:List ByteArray) (r:Bool) (name:ByteArray) (w:World) (h:RT w A c xs) (h0:0<xs.length) (hl:xs.length≤100000) :
 Calls Tryz.prog 22 #[.agg #[.slice A xs.length c,.bool r],.string name] w (RetSd w (xs.set 0 name) r):=by
 have HCP:=lh (fun W (hW:Below w.heap.size w W)=>pcopy_own A c xs r W (h.below hW) h0 hl)
 obtain ⟨x0,hx0⟩:∃ x0,xs[0]? = some x0:=⟨_,gE h0⟩
 have HX:=lh hx0
 have HSS:Hid ((xs.set 0 name).length=xs.length):=lh (List.length_set ..)
 have HQ:At (BN w [(w.heap.size,[.slice A xs.length c,.bool r]),(w.heap.size+1,[.slice none 0 0,.bool false])]) ((w.alloc (.cells #[.slice A xs.length c,.bool r] 45)).alloc (.cells #[.slice none 0 0,.bool false] 45)) :=
  (((BN.nil w).push [.slice A xs.length c,.bool r] 45 rfl (ns2 ns_slice ns_bool)).push [.slice none 0 0,.bool false] 45 (g:=w.heap.size+1) (by simp) (ns2 ns_slice ns_bool)).at_
 clear h hx0
 go_enter Tryz.func22,Tryz.ntmps22
 go_wp2_with (go_at_call 54;refine (HCP.out _ bB).mono ?_;rintro e w3 ⟨g,d,base,rfl,⟨hbs,ho⟩,hb⟩;have HO:=lh ho;replace HQ:=HQ.go2 bB hb;obtain ⟨o1,o2,o3,o4,o5,o6,o7⟩:=ho.cell HX.out;obtain ⟨a0,a1⟩:=(HQ.out.get 0 rfl).c2;have f0:=(HQ.out.get 0 rfl).2.1 0;have f1:=(HQ.out.get 0 rfl).2.1 1;obtain ⟨b0,b1⟩:=(HQ.out.get 1 rfl).c2;have f2:=(HQ.out.get 1 rfl).2.1 0;have f3:=(HQ.out.get 1 rfl).2.1 1;have hl3:=(HQ.out.get 1 rfl).2.2;have hgn:w.heap.size+1<g:=(by simp at hbs;omega);have e1:g≠w.heap.size:=(by omega);have e2:w.heap.size≠g:=(by omega);have e3:g≠w.heap.size+1:=(by omega);have e4:w.heap.size+1≠g:=(by omega);have e5:base≤g:=o3;have HBS:Hid (w.heap.size+2≤base):=lh (by simp at hbs;omega);clear ho hb)
 have HOF:=lh (((HO.out.box (g:=w.heap.size) (by have:=HBS.out;omega) (.slice (some ⟨g,0,none⟩) xs.length d) (.bool r)).set h0 name).box (g:=w.heap.size+1) (by have:=HBS.out;omega) (.slice (some ⟨g,0,none⟩) xs.length d) (.bool r))
 have hbx:=BX.set2 (((((HQ.out.get 1 rfl).other (p:=⟨w.heap.size,0,none⟩) (by simp) (.slice (some ⟨g,0,none⟩) xs.length d)).other (p:=⟨w.heap.size,1,none⟩) (by simp) (.bool r))).other (p:=⟨g,0,none⟩) e3 (.string name)) (.slice (some ⟨g,0,none⟩) xs.length d) (.bool r)
 have u0:=hbx.1 0 _ rfl
 have u1:=hbx.1 1 _ rfl
 refine bodyPost_ret (v:=.agg #[.slice (some ⟨g,0,none⟩) xs.length d,.bool r]) (by simp only [results,Tryz.results22];simp [go_sem,u0,u1]) rfl ?_
 obtain ⟨A2,c2,e9,hrt⟩:=HOF.out.read
 simp only [Value.slice.injEq] at e9
 obtain ⟨rfl,-,rfl⟩:=e9
 exact ⟨some ⟨g,0,none⟩,d,by rw [HSS.out],hrt,((((HQ.out.low.setCell (p:=⟨w.heap.size,0,none⟩) (Nat.le_refl _) _).setCell (p:=⟨w.heap.size,1,none⟩) (Nat.le_refl _) _).setCell (p:=⟨g,0,none⟩) (by show w.heap.size≤g;omega) _).setCell (p:=⟨w.heap.size+1,0,none⟩) (by show w.heap.size≤w.heap.size+1;omega) _).setCell (p:=⟨w.heap.size+1,1,none⟩) (by show w.heap.size≤w.heap.size+1;omega) _⟩
end Go.Proofs.YtelkmeiepliecaaGreatDoor

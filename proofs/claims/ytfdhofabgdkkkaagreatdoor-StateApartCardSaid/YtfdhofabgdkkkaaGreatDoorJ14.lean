/- A part of the proof that what the machine is told keeps its bounds. -/
import Derived.Test.YtfdhofabgdkkkaaGreatDoorJ13
import Derived.Test.YtfdhofabgdkkkaaGreatDoorJ3
import Derived.Test.YtfdhofabgdkkkaaGreatDoorJ5
set_option maxHeartbeats 128000000
set_option maxRecDepth 100000
namespace Go.Proofs.YtfdhofabgdkkkaaGreatDoor
open Lib renaming hid→zz
open Go.RowKit Go.Fm Go.BigFrame Go.Shelf
set_option linter.unusedVariables false
set_option linter.unusedSimpArgs false
def uT (B:Nat) (w:World) (v:Value) (hs:List Hdr):Prop:=w.ownsRow B 97 2 v hs.length (hs.flatMap xY)
theorem uT.nil (B:Nat) (w:World):uT B w (.slice none 0 0) []:=World.ownsRow_nil _ _ _ _
section
variable {ops:Array Oper} {rest:List Oper} {o:Oper} {a:Act} {Q:Exit→Act→World→Prop}
theorem zFm (w:World) (hgd:o.guard=none) (s x:Operand) (ho:o.op=.call { callee:=.builtin .append,args:=#[s,x],argTypes:=#[93,93] })
  (B:Nat) (v:Value) (hl:List Hdr) (hs:a.eval s=v) (hown:uT B w v hl) (g c:Nat) (hx:a.eval x=.slice (some ⟨g,0,none⟩) 1 c) (r:Hdr)
  (hcells:∀j,w.cell? ⟨g,j,none⟩=(xY r).toArray[j]?) (hlen:hl.length < 1000000) (hB:B≤w.heap.size)
  (h:∀v' w',uT B w' v' (hl++ [r])→w.grownBy w' v.ownBlock→(v'.ownBlock=v.ownBlock∨v'.ownBlock=some w.heap.size)→wpList Tryz.prog ops Q rest (a.put o.dst v') w'):wpList Tryz.prog ops Q (o::rest) a w:=by
 obtain ⟨i,hi,hz,hs39,hb39⟩:=info_parts info55;refine zP w hgd s x 93 ho B 97 i _ 2 32 Tryz.underlying93 hi hz hs39 hb39 rfl (by decide) v hl.length (hl.flatMap xY) hs hown ⟨g,0,none⟩ 1 c (xY r) hx rfl ?_ ?_ (by unfold maxLen; omega) (by omega) hB fun v' w' h1 h2 h3=>h v' w' (by
  unfold uT;rw [List.length_append,List.flatMap_append];simpa using h1) h2 h3
 ·intro j u hj
  rw [zi,hcells j];simpa using hj
 ·intro u hu
  simp only [xY,List.mem_cons,List.not_mem_nil,or_false] at hu;rcases hu with rfl | rfl <;> rfl
end
theorem uT.keep {B:Nat} {w w':World} {v:Value} {hs:List Hdr} (h:uT B w v hs) (hk:∀k,B≤k→k < w.heap.size→w'.heap[k]?=w.heap[k]?):uT B w' v hs:=
 zl h fun k hv=>hk k (zK h hv).1 (zK h hv).2
def recZ:Array Value:=#[.int .i64 0,.int .i64 0,.bool false,.string ByteArray.empty,.bool false,.string ByteArray.empty,.slice none 0 0]
structure zVx (w:World) (ob rb:Nat) (s:ByteArray) (W:World) (a:Int):Prop where
 fr:Fr (fun _=>False) w W
 o:W.heap[ob]?=some (.cells recZ 95 (0,0))
 r:W.heap[rb]?=some (us s a 0)
 lo:w.heap.size≤ob
 lr:ob < rb
theorem zVx.read {w:World} {ob rb:Nat} {s:ByteArray} {W W':World} {a a':Int} (h:zVx w ob rb s W a) (hf:Fr (fun i=>i=rb) W W') (hr:W'.heap[rb]?=some (us s a' 0)):zVx w ob rb s W' a':=
 ⟨h.fr.trans hf fun i e=>.inr (by have:=h.lo; have:=h.lr; omega),(hf.block _ (zA h.o) (by have:=h.lr; omega)).trans h.o,hr,h.lo,h.lr⟩
structure DSt (w:World) (ob rb xb:Nat) (s:ByteArray) (W:World) (a:Int) (X:Array Value):Prop where
 rd:zVx w ob rb s W a
 x:W.heap[xb]?=some (.cells X 95 (0,0))
 lx:rb < xb
section
variable {w:World} {ob rb xb:Nat} {s:ByteArray} {W W':World} {a a':Int} {X:Array Value}
theorem DSt.read (h:DSt w ob rb xb s W a X) (hf:Fr (fun i=>i=rb) W W') (hr:W'.heap[rb]?=some (us s a' 0)):DSt w ob rb xb s W' a' X:=
 ⟨h.rd.read hf hr,(hf.block _ (zA h.x) (by have:=h.lx; omega)).trans h.x,h.lx⟩
theorem DSt.made (h:zVx w ob rb s W a) (X:Array Value):DSt w ob rb W.heap.size s (W.alloc (.cells X 95)) a X:=
 ⟨⟨h.fr.alloc _,(zF _ (zA h.o)).trans h.o,(zF _ (zA h.r)).trans h.r,h.lo,h.lr⟩,zC W _,zA h.r⟩
theorem DSt.set (h:DSt w ob rb xb s W a X) (j:Nat) (v:Value):DSt w ob rb xb s (W.setCell ⟨xb,j,none⟩ v) a (X.setIfInBounds j v):=by
 have h1:=h.lx;have h2:=h.rd.lr;have h3:=h.rd.lo;exact ⟨⟨h.rd.fr.setCell (.inr (by show _≤xb; omega)) _,(zV W (by omega) v).trans h.rd.o,(zV W (by omega) v).trans h.rd.r,h.rd.lo,h.rd.lr⟩,zE h.x v,h.lx⟩
theorem DSt.old (h:DSt w ob rb xb s W a X) (hf:Fr (fun _=>False) W W'):DSt w ob rb xb s W' a X:=
 ⟨⟨h.rd.fr.tr hf,(hf.block _ (zA h.rd.o) fun h=>h).trans h.rd.o,(hf.block _ (zA h.rd.r) fun h=>h).trans h.rd.r,h.rd.lo,h.rd.lr⟩,(hf.block _ (zA h.x) fun h=>h).trans h.x,h.lx⟩
theorem DSt.grown (h:DSt w ob rb xb s W a X) {row:Option Nat} (hg:W.grownBy W' row) (hr:∀k,row=some k→xb < k):DSt w ob rb xb s W' a X:=by
 have h1:=h.lx;have h2:=h.rd.lr;have h3:=h.rd.lo;have hb:∀k,k < W.heap.size→k≤xb→W'.heap[k]?=W.heap[k]?:=fun k hk hle=>hg.block k hk fun e=>by have:=hr k e.symm; omega
 exact ⟨⟨h.rd.fr.grown hg fun k e=>.inr (by have:=hr k e; omega),(hb _ (zA h.rd.o) (by omega)).trans h.rd.o,(hb _ (zA h.rd.r) (by omega)).trans h.rd.r,h.rd.lo,h.rd.lr⟩,(hb _ (zA h.x) (by omega)).trans h.x,h.lx⟩
end
def recX (r:Rec) (hv:Value):Array Value:=#[.int .i64 r.at',.int .i64 r.tm,.bool r.bare,.string r.key,.bool r.gone,.string r.val,hv]
def zVy (w:World) (r:Rec) (z:Int) (e:Ending) (w':World):Prop:=
 ∃hv,e=.returned (.tuple #[xy r hv,.int .i64 z,.int .i64 0])∧xi (fun b=>w.heap.size≤b) w' hv r.hs∧hv.oneCell'=true∧Fr (fun _=>False) w w'
theorem flag1 (r:Rec):(bits .and .i64 (xX r) 1 != 0)=r.bare∧(bits .and .i64 (xX r) 2 != 0)=r.gone∧0≤xX r∧(¬(r.bare=true∧r.gone=true)→xX r≤3):=by
 unfold xX;cases r.bare <;> cases r.gone <;> decide
theorem zQo (s:ByteArray) (p:Int) (r:Rec) (hr:jp r) {p1 p2 p3 p4 p5:Int} {q m:Nat→Int} (hI:RecIs s p r p1 p2 p3 p4 p5 q m) (w:World) (hs:s.size≤maxLen):
  Calls Tryz.prog 201 #[.string s,.int .i64 p] w (zVy w r (q r.hs.length)):=by
 have HR:=zz hr;have HI:=zz hI;have HS:=zz hs;clear hr hI hs;have ST:zVx w w.heap.size (w.heap.size+1) s ((w.alloc (.cells recZ 95)).alloc (us s p 0)) p:=
  ⟨((Fr.same w).alloc _).alloc _,by rw [zF _ (by simp),zC],by rw [show w.heap.size+1=(w.alloc (.cells recZ 95)).heap.size by simp]; exact zC _ _,Nat.le_refl _,by omega⟩
 have ST:=zz ST;go_enter Tryz.func201,Tryz.ntmps201
 go_wp2_with fail
 refine (vI (w.heap.size+1) s p 0 _ HS.out ST.out.r).mono ?_;rintro e w1 ⟨rfl,hf,hr⟩;rw [HI.out.at'] at hr ⊢;dsimp only at hr ⊢;have ST1:=zz (ST.out.read hf hr);clear ST hf hr;have hob:Hid (w.heap.size < w.heap.size+1):=zz (by omega);generalize w.heap.size=ob at *;generalize ob+1=rb at *;go_wp2_with fail
 refine (vI rb s p1 0 _ HS.out ST1.out.r).mono ?_;rintro e w2 ⟨rfl,hf,hr⟩;rw [HI.out.tm] at hr ⊢;dsimp only at hr ⊢;have ST2:=zz (ST1.out.read hf hr);clear ST1 hf hr;have DX:=zz (DSt.made ST2.out #[.int .i64 r.at',.int .i64 r.tm,.bool false,.string ByteArray.empty,.bool false,.string ByteArray.empty,.slice none 0 0]);clear ST2;go_wp2_with fail
 refine (vI rb s p2 0 _ HS.out DX.out.rd.r).mono ?_;rintro e w3 ⟨rfl,hf,hr⟩;rw [HI.out.fl] at hr ⊢;dsimp only at hr ⊢;have D3:=zz (DX.out.read hf hr);clear DX hf hr;generalize w2.heap.size=xb at *;have f2:=zd D3.out.x 2;have f4:=zd D3.out.x 4;have e2:w3.cell? ⟨xb,2,none⟩=some (.bool false):=(zB D3.out.x 2).trans rfl;have e4:w3.cell? ⟨xb,4,none⟩=some (.bool false):=(zB D3.out.x 4).trans rfl;obtain ⟨b1,b2,b3,b4⟩:=flag1 r;replace b4:=b4 HR.out.both;have D4:Hid (DSt w ob rb xb s _ p3 #[.int .i64 r.at',.int .i64 r.tm,.bool r.bare,.string ByteArray.empty,.bool r.gone,.string ByteArray.empty,.slice none 0 0]):=zz ((D3.out.set 2 (.bool r.bare)).set 4 (.bool r.gone));clear D3;have FL:=zz (⟨b3,b4⟩:_∧_);clear b3 b4;go_wp2_with fail
 refine (kF rb s p3 0 _ HS.out D4.out.rd.r).mono ?_;rintro e w4 ⟨rfl,hf,hr⟩;rw [HI.out.key] at hr ⊢;dsimp only at hr ⊢;have D5:=zz (D4.out.read hf hr);clear D4 hf hr b1 b2 f2 f4 e2 e4 ST;go_wp2_with fail
 refine (kF rb s p4 0 _ HS.out D5.out.rd.r).mono ?_;rintro e w5 ⟨rfl,hf,hr⟩;rw [HI.out.val] at hr ⊢;dsimp only at hr ⊢;have D6:=zz (D5.out.read hf hr);clear D5 hf hr;have f3:=zd D6.out.x 3;have f5:=zd D6.out.x 5;have e3:w5.cell? ⟨xb,3,none⟩=some (.string ByteArray.empty):=(zB D6.out.x 3).trans rfl;have e5:w5.cell? ⟨xb,5,none⟩=some (.string ByteArray.empty):=(zB D6.out.x 5).trans rfl;have D7:Hid (DSt w ob rb xb s _ p5 (recX r (.slice none 0 0))):=zz ((D6.out.set 3 (.string r.key)).set 5 (.string r.val));clear D6;go_wp2_with fail
 refine (vI rb s p5 0 _ HS.out D7.out.rd.r).mono ?_;rintro e w6 ⟨rfl,hf,hr⟩;rw [HI.out.num] at hr ⊢;dsimp only at hr ⊢;have D8:=zz (D7.out.read hf hr);clear D7 hf hr f3 f5 e3 e5;have hlen:=HR.out.hs;have n0:(0:Int)≤(r.hs.length:Int):=by omega
 have n1:(r.hs.length:Int)≤10:=by omega
 go_wp2_with fail
 refine (zJe rb s (q 0) 0 true _ D8.out.rd.r).mono ?_;rintro e w7 ⟨rfl,hf,hr⟩;have hr:w7.heap[rb]?=some (us s (q 0) 0):=hr;have D9:=zz (D8.out.read hf hr);clear D8 hf hr n0 n1;have HLEN:=zz hlen;clear hlen;go_wp2_with fail
 go_loopw [11] (fun iv wr=>∃(i:Nat) (hv:Value),iv=.int .i64 i∧i≤r.hs.length∧uT (xb+1) wr hv (r.hs.take i)∧DSt w ob rb xb s wr (q i) (recX r hv)) (fun iv _=>r.hs.length - (intOf iv).toNat)
 case atStart=>exact ⟨0,_,rfl,Nat.zero_le _,uT.nil _ _,D9.out⟩
 case round=>
  obtain ⟨i,hv,rfl,hi,hown,hd⟩:=hrel;have O:=zz hown;have D:=zz hd;have c2:wr.cell? ⟨rb,2,none⟩=some (.int .i64 0):=(zB hd.rd.r 2).trans rfl;clear hown hd D9;rcases Nat.lt_or_ge i r.hs.length with hlt | hge
  ·obtain ⟨x,hx⟩:=zH hlt
   have HX:=zz hx;clear hx;go_wp2_with fail
   refine (kF rb s (q i) 0 _ HS.out D.out.rd.r).mono ?_;rintro e w8 ⟨rfl,hf,hr⟩;rw [HI.out.hk i x HX.out] at hr ⊢;dsimp only at hr ⊢;have hlx:=D.out.lx;have O8:=O.out.keep fun k hk hl=>hf.block k hl (by omega)
   have LK:=zz (fun k hk=>(zK O8 (k:=k) hk).2);have D8:=zz ((D.out.read hf hr).old ((Fr.same w8).alloc (.cells #[.string x.key,.string ByteArray.empty] 97)));have O8:=zz (O8.keep (w':=w8.alloc (.cells #[.string x.key,.string ByteArray.empty] 97)) fun k hk hl=>zF _ hl);have A8:=zz (zC w8 (.cells #[.string x.key,.string ByteArray.empty] 97));have hxb:=zA (D.out.read hf hr).x;have HX8:=zz (⟨hlx,hxb⟩:rb < xb∧xb < w8.heap.size);clear hf hr hlx hxb c2 D O;go_wp2_with fail
   refine (kF rb s (m i) 0 _ HS.out D8.out.rd.r).mono ?_;rintro e w9 ⟨rfl,hf,hr⟩;rw [HI.out.hv i x HX.out] at hr ⊢;dsimp only at hr ⊢;generalize w8.heap.size=hb at *;have A9:w9.heap[hb]?=some (.cells #[.string x.key,.string ByteArray.empty] 97 (0,0)):=(hf.block _ (zA A8.out) (by have:=HX8.out; omega)).trans A8.out;have D9:=(D8.out.read hf hr);have O9:=O8.out.keep fun k hk hl=>hf.block k hl (by have:=HX8.out; omega)
   clear hf hr D8 O8 A8;have g0:w9.cell? ⟨hb,0,none⟩=some (.string x.key):=(zB A9 0).trans rfl;have g1:w9.cell? ⟨hb,1,none⟩=some (.string ByteArray.empty):=(zB A9 1).trans rfl;have g2:=zd A9 1;have g6:w9.cell? ⟨xb,6,none⟩=some hv:=(zB D9.x 6).trans rfl;have ne:xb≠hb:=by have:=HX8.out; omega
   have hf9:Fr (fun i=>i=hb) w9 ((w9.setCell ⟨hb,1,none⟩ (.string x.val)).alloc (.cells #[.string x.key,.string x.val] 97)):=Fr.alloc (Fr.setCell (S:=fun i=>i=hb) (p:=⟨hb,1,none⟩) (Fr.refl _ _) (.inl rfl) _) _;have hl9:=zA A9;have hlx9:=zA D9.x;have O10:uT (xb+1) ((w9.setCell ⟨hb,1,none⟩ (.string x.val)).alloc (.cells #[.string x.key,.string x.val] 97)) hv (r.hs.take i):=zl O9 fun k hk=>hf9.block k (zK O9 hk).2 (by have:=LK.out k hk; omega)
   have D10:DSt w ob rb xb s ((w9.setCell ⟨hb,1,none⟩ (.string x.val)).alloc (.cells #[.string x.key,.string x.val] 97)) (q (i+1)) (recX r hv):=by
    have h1:=D9.lx;have h2:=D9.rd.lr;have h3:=D9.rd.lo;have h4:=HX8.out;exact ⟨⟨D9.rd.fr.trans hf9 fun k e=>.inr (by omega),(hf9.block _ (zA D9.rd.o) (by omega)).trans D9.rd.o,(hf9.block _ (zA D9.rd.r) (by omega)).trans D9.rd.r,h3,h2⟩,(hf9.block _ hlx9 (by omega)).trans D9.x,h1⟩
   have hc10:∀j,((w9.setCell ⟨hb,1,none⟩ (.string x.val)).alloc (.cells #[.string x.key,.string x.val] 97)).cell? ⟨w9.heap.size,j,none⟩=(xY x).toArray[j]?:=fun j=>by
    have:=zD (w9.setCell ⟨hb,1,none⟩ (.string x.val)) #[.string x.key,.string x.val] 97 j
    rwa [show (w9.setCell ⟨hb,1,none⟩ (.string x.val)).heap.size=w9.heap.size by simp [World.setCell]] at this
   have O10:=zz O10;have D10:=zz D10;have HC10:=zz hc10;have HL:=zz (⟨hl9,hlx9⟩:_∧_);have hlen:=HLEN.out;have hsz9:((w9.setCell ⟨hb,1,none⟩ (.string x.val)).alloc (.cells #[.string x.key,.string x.val] 97)).heap.size=w9.heap.size+1:=by simp [World.setCell]
   have HSZ:=zz hsz9;clear hf9 hl9 hlx9 hc10 A9 D9 O9 hlen hsz9;go_wp2_with (at_builtin; refine zFm _ rfl (.tmp 67) (.tmp 69) rfl (xb+1) hv (r.hs.take i) rfl O10.out w9.heap.size 1 rfl x HC10.out ?c2 ?c3 ?_)
   case c2=>have:=HLEN.out; simp; omega
   case c3=>rw [HSZ.out]; have:=HX8.out; have:=HL.out; omega
   intro v' w11 hown hg hcase;clear g0 g1 g2 g6 ne;have D11:=D10.out.grown hg fun k hk=>(zK O10.out hk).1
   have e6:w11.cell? ⟨xb,6,none⟩=some hv:=(zB D11.x 6).trans rfl;have f6:=zd D11.x 6;have D12:=zz (D11.set 6 v');have O12:=zz (uT.keep (w':=w11.setCell ⟨xb,6,none⟩ v') hown fun k hk hl=>zV w11 (by omega) v');obtain ⟨oa',cap',hv',-⟩:=ze hown;rw [show (r.hs.take i++ [x]).length=i+1 by simp; omega] at hv';subst hv';have ht:r.hs.take i++ [x]=r.hs.take (i+1):=by rw [List.take_add_one,HX.out]; rfl
   rw [ht] at O12;have hlen:=HLEN.out;clear hown hg hcase D11 D10 O10 ht;go_wp2_with fail
   go_roundw
   case rel=>exact ⟨i+1,_,by go_num,by omega,O12.out,D12.out⟩
   case measure=>simp [intOf]; omega
  ·have hieq:i=r.hs.length:=by omega
   subst hieq;have hall:r.hs.take r.hs.length=r.hs:=List.take_length;rw [hall] at O;clear hall hge hi;have hn:Hid ((xb+1)≥0):=zz (by omega);obtain ⟨oa,cap,hvs,-⟩:=ze O.out;have HV:=zz hvs;have c0:wr.cell? ⟨xb,0,none⟩=some (.int .i64 r.at'):=(zB D.out.x 0).trans rfl;have c1:wr.cell? ⟨xb,1,none⟩=some (.int .i64 r.tm):=(zB D.out.x 1).trans rfl;have c3:wr.cell? ⟨xb,2,none⟩=some (.bool r.bare):=(zB D.out.x 2).trans rfl;have c4:wr.cell? ⟨xb,3,none⟩=some (.string r.key):=(zB D.out.x 3).trans rfl;have c5:wr.cell? ⟨xb,4,none⟩=some (.bool r.gone):=(zB D.out.x 4).trans rfl;have c6:wr.cell? ⟨xb,5,none⟩=some (.string r.val):=(zB D.out.x 5).trans rfl;have c7:wr.cell? ⟨xb,6,none⟩=some hv:=(zB D.out.x 6).trans rfl;have b3:=FL.out.1;have b4:=FL.out.2;clear hvs;go_wp2_with fail
   have hcall:=zDq (fun b=>xb+1≤b∧hv.ownBlock=some b) r hv wr (zBq O.out rfl) HR.out;refine hcall.mono ?_;clear hcall c0 c1 c2 c3 c4 c5 c6 c7;rintro e w8 ⟨rfl,hf⟩;have D8:=zz (D.out.old hf);have O8:=zz (O.out.keep fun k hk hl=>hf.block k hl fun h=>h);clear hf D O;go_wp2_with fail
   refine (zJe rb s _ 0 true _ D8.out.rd.r).mono ?_;rintro e w9 ⟨rfl,hf,hr⟩;have hr:w9.heap[rb]?=some (us s (q r.hs.length) 0):=hr;have D9:=zz (D8.out.read hf hr);have hlx:=D8.out.lx;have O9:=zz (O8.out.keep fun k hk hl=>hf.block k hl (by omega));clear D8 O8 hf hr hlx;have c2:w9.cell? ⟨rb,2,none⟩=some (.int .i64 0):=(zB D9.out.rd.r 2).trans rfl;go_wp2_with fail
   clear c2;have hvs:=HV.out;clear HV;subst hvs;have hlo:=D9.out.rd.lo;have hlr:=D9.out.rd.lr;have hlx:=D9.out.lx;have hdx:∀y:Lcl.InS (fun w'=>Fr (fun i=>i=ob) w9 w'),y.w.heap[xb]?=some (.cells (recX r (.slice oa r.hs.length cap)) 95 (0,0)):=fun y=>(y.h.block _ (zA D9.out.x) (by omega)).trans D9.out.x
   have hdr:∀y:Lcl.InS (fun w'=>Fr (fun i=>i=ob) w9 w'),y.w.heap[rb]?=some (us s (q r.hs.length) 0):=fun y=>(y.h.block _ (zA D9.out.rd.r) (by omega)).trans D9.out.rd.r
   have x0:∀y:Lcl.InS (fun w'=>Fr (fun i=>i=ob) w9 w'),y.w.cell? ⟨xb,0,none⟩=some (.int .i64 r.at'):=fun y=>(zB (hdx y) 0).trans rfl
   have x1:∀y:Lcl.InS (fun w'=>Fr (fun i=>i=ob) w9 w'),y.w.cell? ⟨xb,1,none⟩=some (.int .i64 r.tm):=fun y=>(zB (hdx y) 1).trans rfl
   have x2:∀y:Lcl.InS (fun w'=>Fr (fun i=>i=ob) w9 w'),y.w.cell? ⟨xb,2,none⟩=some (.bool r.bare):=fun y=>(zB (hdx y) 2).trans rfl
   have x3:∀y:Lcl.InS (fun w'=>Fr (fun i=>i=ob) w9 w'),y.w.cell? ⟨xb,3,none⟩=some (.string r.key):=fun y=>(zB (hdx y) 3).trans rfl
   have x4:∀y:Lcl.InS (fun w'=>Fr (fun i=>i=ob) w9 w'),y.w.cell? ⟨xb,4,none⟩=some (.bool r.gone):=fun y=>(zB (hdx y) 4).trans rfl
   have x5:∀y:Lcl.InS (fun w'=>Fr (fun i=>i=ob) w9 w'),y.w.cell? ⟨xb,5,none⟩=some (.string r.val):=fun y=>(zB (hdx y) 5).trans rfl
   have x6:∀y:Lcl.InS (fun w'=>Fr (fun i=>i=ob) w9 w'),y.w.cell? ⟨xb,6,none⟩=some (.slice oa r.hs.length cap):=fun y=>(zB (hdx y) 6).trans rfl
   have x7:∀y:Lcl.InS (fun w'=>Fr (fun i=>i=ob) w9 w'),y.w.cell? ⟨rb,1,none⟩=some (.int .i64 (q r.hs.length)):=fun y=>(zB (hdr y) 1).trans rfl
   clear hdx hdr hlo hlr hlx;refine Lcl.wp_region_calm (by kernel_rfl) [(true,[1,2,3]),(false,[0,4])] #[0,0,2,6,14,1,63,127] [0,1,2,3,4,5] 3 #[true,true,true,true,true,false,false,false] (by kernel_rfl) (by kernel_rfl) (by kernel_rfl) (fun w'=>Fr (fun i=>i=ob) w9 w') (Fr.refl _ w9).drew (fun d c a v w h=>by cases d <;> exact h) ?_;simp only [Lcl.opsOf,List.map_cons,List.map_nil,List.getElem?_toArray,List.getElem?_cons_succ,List.getElem?_cons_zero,Option.getD_some];refine Lcl.wpCalm_t ?_;repeat (go_big_quiet_step (rfl))
   refine wpQuiet_nil ?_;refine Lcl.wpCalm_f ?_;repeat (go_big_quiet_step (rfl))
   refine wpQuiet_nil ?_;refine Lcl.wpCalm_nil ?_;clear x0 x1 x2 x3 x4 x5 x6 x7;refine Lcl.wpG_one 5 rfl (by kernel_rfl) ?_;have DD:=D9.out.old (Fr.same w9).drew;have hlo:=DD.rd.lo;have hlr:=DD.rd.lr;have hlx:=DD.lx;have hhd:=zBq O9.out rfl;refine jr rfl 95 (.tmp 4) (.tmp 95) rfl ob rfl 95 recZ (xy r (.slice oa r.hs.length cap)) rfl DD.rd.o rfl (by kernel_rfl) rfl ?_;intro w10 hb hg;have hf10:Fr (fun _=>False) w w10:=DD.rd.fr.grown hg fun k e=>by cases e; exact .inr hlo
   have hh10:xi (fun b=>w.heap.size≤b) w10 (.slice oa r.hs.length cap) r.hs:=hhd.to fun b hb hl=>⟨by have:=hb.1; omega,hg.block b hl fun e=>by cases e; have:=hb.1; omega⟩
   have FF:=zz hf10;have HH:=zz hh10;have HB:=zz hb;have HG:=zz hg;clear hb hg hf10 hh10 DD hlo hlr hlx hhd D9 O9;refine ⟨fun _ h=>h.grown HG.out fun k e=>by cases e; exact .inl rfl,?_⟩;refine Lcl.wpG_run (needs:=[0,1,2,3,4,5]) [6,7] _ _ _ (by kernel_rfl) ?_;simp only [List.map_cons,List.map_nil,List.getElem?_toArray,List.getElem?_cons_succ,List.getElem?_cons_zero,Option.getD_some];have d0:w10.cell? ⟨ob,0,none⟩=some (.int .i64 r.at'):=(zB HB.out 0).trans rfl;have d1:w10.cell? ⟨ob,1,none⟩=some (.int .i64 r.tm):=(zB HB.out 1).trans rfl;have d2:w10.cell? ⟨ob,2,none⟩=some (.bool r.bare):=(zB HB.out 2).trans rfl;have d3:w10.cell? ⟨ob,3,none⟩=some (.string r.key):=(zB HB.out 3).trans rfl;have d4:w10.cell? ⟨ob,4,none⟩=some (.bool r.gone):=(zB HB.out 4).trans rfl;have d5:w10.cell? ⟨ob,5,none⟩=some (.string r.val):=(zB HB.out 5).trans rfl;have d6:w10.cell? ⟨ob,6,none⟩=some (.slice oa r.hs.length cap):=(zB HB.out 6).trans rfl;go_wp2_with fail
   refine bodyPost_ret (v:=.tuple #[xy r (.slice oa r.hs.length cap),.int .i64 (q r.hs.length),.int .i64 0]) (by
    simp [results,Tryz.f201,go_sem,xy,d0,d1,d2,d3,d4,d5,d6]) rfl ⟨_,rfl,HH.out,rfl,FF.out⟩
end Go.Proofs.YtfdhofabgdkkkaaGreatDoor

/- A part of the proof that what the machine is told keeps its bounds. -/
import Derived.Test.YtfdhofabgdkkkaaGreatDoorJ29
set_option maxHeartbeats 128000000
set_option maxRecDepth 100000
namespace Go.Proofs.YtfdhofabgdkkkaaGreatDoor
open Lib renaming hid→zz
open Go.RowKit Go.Fm Go.BigFrame Go.Shelf Go.Maps
set_option linter.unusedVariables false
set_option linter.unusedSimpArgs false
section
variable {w w':World} {S K:Nat→Prop}
def SIdxPost (l:List ByteArray) (s:ByteArray) (w:World) (e:Ending) (w':World):Prop:=(∃i:Int,e=.returned (.int .i64 i)∧(0≤i→s∈l)∧(i < 0→s ∉ l))∧w'=w
theorem zXj (l:List ByteArray) (v:Value) (s:ByteArray) (h:xS K w v l) (hl:l.length≤1000):Calls Tryz.prog 314 #[v,.string s] w (SIdxPost l s w):=by
 obtain ⟨oa,cap,rfl,-,h1⟩:=h;have H:=zz h1;clear h1;go_enter Tryz.func314,Tryz.ntmps314
 go_wp2_with fail
 go_loopw [8] (fun i wr=>∃k:Nat,i=.int .i64 k∧k≤l.length∧(∀(j:Nat) (x:ByteArray),j < k→l[j]?=some x→x≠s)∧wr=w) (fun i _=>l.length - (intOf i).toNat)
 case atStart=>exact ⟨0,rfl,Nat.zero_le _,fun j x h=>absurd h (Nat.not_lt_zero _),rfl⟩
 case round=>
  obtain ⟨k,rfl,hk,hall,rfl⟩:=hrel;have AL:=zz hall;clear hall;rcases Nat.lt_or_ge k l.length with hlt | hge
  ·obtain ⟨x,hx⟩:=zH hlt
   obtain ⟨a,rfl,-,hc,-⟩:=H.out k x hx;have HX:=zz hx;clear hx;by_cases he:s=x
   ·subst he
    go_wp2_with fail
    go_ret
    exact ⟨⟨_,rfl,fun _=>List.mem_of_getElem? HX.out,fun h=>by have h8:(k:Int) < 0:=h; omega⟩,rfl⟩
   ·have he2:(s.toList == x.toList)=false:=by
     rw [beq_eq_false_iff_ne];intro h9;exact he (Go.WideShapes.bytes_inj (by rw [←Lib.toList_data,←Lib.toList_data]; exact h9))
    have HE:=zz he;clear he;go_wp2_with fail
    go_roundw
    case rel=>exact ⟨k+1,by go_num,by omega,fun j y hj hy=>by
     rcases Nat.lt_or_ge j k with h9 | h9
     ·exact AL.out j y h9 hy
     ·obtain rfl:j=k:=by omega
      obtain rfl:=Option.some.inj (HX.out.symm.trans hy);exact fun h=>HE.out h.symm,trivial⟩
    case measure=>simp [intOf]; omega
  ·obtain rfl:k=l.length:=by omega
   go_wp2_with fail
   go_ret
   exact ⟨⟨_,rfl,fun h=>by simp at h,fun _ hm=>by obtain ⟨j,hj⟩:=List.mem_iff_getElem?.1 hm; exact AL.out j s (List.getElem?_eq_some_iff.1 hj).1 hj rfl⟩,rfl⟩
theorem zXk (l:List ByteArray) (v:Value) (s:ByteArray) (h:xS K w v l) (hl:l.length≤1000):Calls Tryz.prog 308 #[v,.string s] w (zHh (s∈l) w):=by
 have IW:=zz (zXj l v s h hl);obtain ⟨oa,cap,rfl,-⟩:=h;go_enter Tryz.func308,Tryz.ntmps308
 go_wp2_with fail
 refine IW.out.mono ?_;rintro e w2 ⟨⟨i,rfl,hi,hj⟩,rfl⟩;have HI:=zz hi;have HJ:=zz hj;clear hi hj IW;go_wp2_with fail
 go_ret
 refine ⟨⟨decide (0≤i),rfl,fun h=>HI.out (of_decide_eq_true h),fun h=>HJ.out (by have:=of_decide_eq_false h; omega)⟩,Fr.same _⟩
end
section
variable {w w':World} {S K:Nat→Prop}
structure ShZ where
 id:Int
 pl:List (ByteArray × Int)
 pv:Value
def shC (z:ShZ):List Value:=[.int .i64 z.id,z.pv]
theorem zHi (z:ShZ):(shC z).length=2:=rfl
theorem info344:(Tryz.prog.info? 344).map (fun i=>(i.zero,i.size,i.bytes))=some (some (.agg #[.int .i64 0,.slice none 0 0]),2,32):=by kernel_rfl
theorem info3:(Tryz.prog.info? 3).map (fun i=>(i.zero,i.size,i.bytes))=some (some (.int .i64 0),1,8):=by kernel_rfl
def Pushed {α:Type} (f:α→List Value) (n:Nat) (ety:TypeId) (B:Nat) (w:World) (v:Value) (l:List α) (v':Value) (w':World):Prop:=w'.ownsRow B ety n v' l.length (l.flatMap f)∧w.grownBy w' v.ownBlock∧(v'.ownBlock=v.ownBlock∨v'.ownBlock=some w.heap.size)
section
variable {ops:Array Oper} {rest:List Oper} {o:Oper} {a:Act} {Q:Exit→Act→World→Prop}
theorem yI {α:Type} (f:α→List Value) (n:Nat) (hn:∀x,(f x).length=n) (h0:0 < n) (sty ety:TypeId) (z:Value) (bytes:Nat)
  (hinfo:(Tryz.prog.info? ety).map (fun i=>(i.zero,i.size,i.bytes))=some (some z,n,bytes)) (hzs:z.cells.size=n) (hby:bytes≤100) (hund:Tryz.prog.underlying sty=some (.slice ety))
  (w:World) (hgd:o.guard=none) (s x:Operand) (ho:o.op=.call { callee:=.builtin .append,args:=#[s,x],argTypes:=#[sty,sty] })
  (B:Nat) (v:Value) (l:List α) (hs:a.eval s=v) (hown:w.ownsRow B ety n v l.length (l.flatMap f)) (g c:Nat) (hx:a.eval x=.slice (some ⟨g,0,none⟩) 1 c) (y:α)
  (hcells:∀j,w.cell? ⟨g,j,none⟩=(f y).toArray[j]?) (hone:∀u∈f y,u.oneCell'=true) (hlen:l.length < 1000000) (hB:B≤w.heap.size)
  (h:∀v' w',Pushed f n ety B w v (l++ [y]) v' w'→wpList Tryz.prog ops Q rest (a.put o.dst v') w'):wpList Tryz.prog ops Q (o::rest) a w:=by
 obtain ⟨i,hi,hz,h1,h2⟩:=info_parts hinfo;refine zP w hgd s x sty ho B ety i _ n bytes hund hi hz h1 h2 hzs h0 v l.length (l.flatMap f) hs hown ⟨g,0,none⟩ 1 c (f y) hx (by rw [hn,Nat.one_mul]) ?_ hone (by unfold maxLen; omega) (Nat.le_trans (Nat.mul_le_mul (show l.length+1≤1000000 by omega) hby) (by decide)) hB fun v' w' h1 h2 h3=>h v' w' ⟨by rw [List.length_append,List.flatMap_append]; simpa using h1,h2,h3⟩
 intro j u hj;rw [zi,hcells j]
 simpa using hj
end
structure jB (w:World) (B db:Nat) (sv shv:Value) (L:List ShZ):Prop where
 b:w.heap[db]?=some (.cells #[sv,shv] 399 (0,0))
 row:w.ownsRow B 344 2 shv L.length (L.flatMap shC)
 ok:∀(i:Nat) (z:ShZ),L[i]?=some z→w.ownsRow B 169 2 z.pv z.pl.length (z.pl.flatMap jA)
 lo:B≤db
 x1:shv.ownBlock≠some db
 x2:∀(i:Nat) (z:ShZ),L[i]?=some z→z.pv.ownBlock≠some db
 x3:∀(i:Nat) (z:ShZ) (k:Nat),L[i]?=some z→z.pv.ownBlock=some k→shv.ownBlock≠some k
 ap:∀(i j:Nat) (x y:ShZ) (k:Nat),L[i]?=some x→L[j]?=some y→i≠j→x.pv.ownBlock=some k→y.pv.ownBlock≠some k
 sz:∀(i:Nat) (z:ShZ),L[i]?=some z→∀p∈z.pl,p.1.size≤150000000000000
theorem jB.old {B db:Nat} {sv shv:Value} {L:List ShZ} (h:jB w B db sv shv L) (hf:Fr (fun _=>False) w w'):jB w' B db sv shv L:=
 ⟨(hf.block _ (zA h.b) fun h=>h).trans h.b,zl h.row fun k hk=>hf.block k (zK h.row hk).2 fun h=>h,fun i z hz=>zl (h.ok i z hz) fun k hk=>hf.block k (zK (h.ok i z hz) hk).2 fun h=>h,h.lo,h.x1,h.x2,h.x3,h.ap,h.sz⟩
def zBc (s:yM):ShZ:=⟨s.id,[],.slice none 0 0⟩
theorem jB.begun {B db:Nat} {sv shv:Value} {l:List yM} (b:w.heap[db]?=some (.cells #[sv,shv] 399 (0,0))) (row:w.ownsRow B 344 2 shv (l.map zBc).length ((l.map zBc).flatMap shC)) (lo:B≤db) (x1:shv.ownBlock≠some db):jB w B db sv shv (l.map zBc):=by
 have hp:∀(i:Nat) (z:ShZ),(l.map zBc)[i]?=some z→z.pl=[]∧z.pv=.slice none 0 0:=fun i z hz=>by
  rw [List.getElem?_map] at hz;obtain ⟨s,-,rfl⟩:=Option.map_eq_some_iff.1 hz;exact ⟨rfl,rfl⟩
 have hn:∀(i:Nat) (z:ShZ) (k:Nat),(l.map zBc)[i]?=some z→z.pv.ownBlock=some k→False:=fun i z k hz hk=>by
  rw [(hp i z hz).2] at hk;simp [Value.ownBlock] at hk
 exact ⟨b,row,fun i z hz=>by rw [(hp i z hz).1,(hp i z hz).2]; exact World.ownsRow_nil _ _ _ _,lo,x1,fun i z hz e=>hn i z _ hz e,fun i z k hz e=>(hn i z k hz e).elim,fun i j x y k hx hy _ e=>(hn i x k hx e).elim,fun i z hz p hp'=>by rw [(hp i z hz).1] at hp'; cases hp'⟩
def zXl (subs:List yM) (sv:Value) (w:World) (e:Ending) (w':World):Prop:=∃db shv,e=.returned (.pointer (some ⟨db,0,none⟩))∧jB w' w.heap.size db sv shv (subs.map zBc)∧Fr (fun _=>False) w w'
theorem zHj (subs:List yM) (sv:Value) (w:World) (hs:kY w sv subs) (hl:subs.length≤1000):Calls Tryz.prog 292 #[sv] w (zXl subs sv w):=by
 obtain ⟨oa,cap,rfl,-⟩:=id hs;have H:=zz hs;have f0:=(Fr.same w).alloc (.cells #[.slice oa subs.length cap,.slice none 0 0] 399);have x0:=zC w (.cells #[.slice oa subs.length cap,.slice none 0 0] 399);have D0:=zz (jB.begun (l:=[]) (B:=w.heap.size) (sv:=.slice oa subs.length cap) (shv:=.slice none 0 0) x0 (World.ownsRow_nil _ _ _ _) (Nat.le_refl _) (by simp [Value.ownBlock]));have F0:=zz f0;clear hs f0 x0;go_enter Tryz.func292,Tryz.ntmps292
 go_wp2_with fail
 go_loopw [11] (fun i wr=>∃(k:Nat) (shv:Value),i=.int .i64 k∧k≤subs.length∧jB wr w.heap.size w.heap.size (.slice oa subs.length cap) shv ((subs.take k).map zBc)∧Fr (fun _=>False) w wr) (fun i _=>subs.length - (intOf i).toNat)
 case atStart=>exact ⟨0,_,rfl,Nat.zero_le _,D0.out,F0.out⟩
 case round=>
  obtain ⟨k,shv,rfl,hk,hd,hf⟩:=hrel;have FF:=zz hf;rcases Nat.lt_or_ge k subs.length with hlt | hge
  ·obtain ⟨z,hz⟩:=zH hlt
   obtain ⟨oa',cap',hsl,hat⟩:=H.out.old FF.out;injection hsl with e1 _ e3
   subst e1 e3;obtain ⟨g,rfl,c0,c1⟩:=hat k z hz;obtain ⟨osh,csh,hsv,-,-⟩:=ze hd.row;rw [show ((subs.take k).map zBc).length=k by rw [List.length_map,List.length_take]; omega] at hsv;subst hsv;have fa:=(Fr.same wr).alloc (.cells #[.int .i64 z.id,.slice z.ta z.tn z.tc] 314);have ca:=zD wr #[.int .i64 z.id,.slice z.ta z.tn z.tc] 314 0;have DA:=zz (hd.old fa);have FA:=zz (FF.out.tr fa);have dsh:=(zB DA.out.b 1).trans (show _=some (Value.slice osh k csh) from rfl);have HZ:=zz hz;have LT:=zz (zA hd.b);clear hz hat hd hf fa;go_wp2_with fail
   generalize wr.alloc (.cells #[.int .i64 z.id,.slice z.ta z.tn z.tc] 314)=wa at *;have y1:∀y:Lcl.InS (fun w'=>Fr (fun _=>False) wa w'),y.w.cell? ⟨w.heap.size,1,none⟩=some (.slice osh k csh):=fun y=>y.h.cel dsh
   have y2:∀y:Lcl.InS (fun w'=>Fr (fun _=>False) wa w'),y.w.cell? ⟨wr.heap.size,0,none⟩=some (.int .i64 z.id):=fun y=>y.h.cel ca
   have fd:Fr (fun _=>False) wa wa.drew:=(Fr.same wa).drew;have FD:=zz fd;clear fd;refine Lcl.wp_region_calm (by kernel_rfl) [(true,[0,1,2,3,5]),(false,[4,6]),(true,[7])] #[0,0,2,6,14,0,32,96,224,510,1023,2047,4095] [0,1,2,3,4,5,6,7,8] 5 #[true,true,true,true,true,true,true,true,false,false,false,false,false] (by kernel_rfl) (by kernel_rfl) (by kernel_rfl) (fun w'=>Fr (fun _=>False) wa w') (Fr.same wa).drew (fun d c a v w h=>by cases d <;> exact h) ?_;simp only [Lcl.opsOf,List.map_cons,List.map_nil,List.getElem?_toArray,List.getElem?_cons_succ,List.getElem?_cons_zero,Option.getD_some];refine Lcl.wpCalm_t ?_
   repeat (go_big_quiet_step (rfl))
   refine wpQuiet_nil ?_;refine Lcl.wpCalm_f ?_
   repeat (go_big_quiet_step (rfl))
   refine wpQuiet_nil ?_;refine Lcl.wpCalm_t ?_
   repeat (go_big_quiet_step (rfl))
   refine wpQuiet_nil ?_;refine Lcl.wpCalm_nil ?_;clear y1 y2 dsh ca c0 c1;generalize wa.drew=wd at *;have fb:=FD.out.alloc (.cells #[.int .i64 z.id,.slice none 0 0] 344);have hcb:=fun j=>zD wd #[.int .i64 z.id,.slice none 0 0] 344 j
   have DB:=zz (DA.out.old fb);have FB:=zz (FA.out.tr fb);have HCB:=zz hcb;clear hcb;have FB2:=zz fb;clear fb;refine Lcl.wpG_one 8 rfl (by kernel_rfl) ?_;go_wp2_with fail
   refine ⟨fun _ _=>FB2.out,?_⟩;refine Lcl.wpG_run [9,10,11,12] _ _ _ (by kernel_rfl) ?_;simp only [List.map_cons,List.map_nil,List.getElem?_toArray,List.getElem?_cons_succ,List.getElem?_cons_zero,Option.getD_some];go_wp2_with (at_builtin; refine yI shC 2 zHi (by decide) 340 344 _ 32 info344 rfl (by decide) Tryz.underlying340 _ rfl (.tmp 19) (.tmp 23) rfl w.heap.size (.slice osh k csh) ((subs.take k).map zBc) rfl DB.out.row wd.heap.size 1 rfl (zBc z) HCB.out ?c1 ?c2 ?c3 ?_)
   case c1=>intro u hu; simp only [shC,List.mem_cons,List.not_mem_nil,or_false] at hu; rcases hu with rfl | rfl <;> rfl
   case c2=>rw [List.length_map,List.length_take]; omega
   case c3=>exact FB.out.size
   rintro v' w2 ⟨ho,hg,hb⟩;have eL:(subs.map zBc).take k++ [zBc z]=(subs.take (k+1)).map zBc:=by rw [List.take_add_one,HZ.out,List.map_append,List.map_take]; rfl
   rw [eL] at ho;have hw9:(wd.alloc (.cells #[.int .i64 z.id,.slice none 0 0] 344)).heap.size=wd.heap.size+1:=by simp
   obtain ⟨o9,c9,hv9,-,-⟩:=ze ho;rw [show ((subs.take (k+1)).map zBc).length=k+1 by rw [List.length_map,List.length_take]; omega] at hv9;subst hv9;have b1:=(hg.block w.heap.size (zA DB.out.b) (fun e=>DB.out.x1 e.symm)).trans DB.out.b;have b2:=(zE b1 (o:=1) (.slice o9 (k+1) c9)).trans (show _=some (Obj.cells #[.slice (some ⟨g,0,none⟩) subs.length cap,.slice o9 (k+1) c9] 399 (0,0)) from rfl);have fs:Fr (fun i=>i=w.heap.size) w2 (w2.setCell ⟨w.heap.size,1,none⟩ (.slice o9 (k+1) c9)):=(Fr.refl (fun i=>i=w.heap.size) w2).setCell (p:=⟨w.heap.size,1,none⟩) (.inl rfl) _;have hx9:(Value.slice o9 (k+1) c9).ownBlock≠some w.heap.size:=fun e=>by
    rcases hb with hb | hb
    ·exact DB.out.x1 (hb.symm.trans e)
    ·have:=Option.some.inj (hb.symm.trans e)
     have:=zA DB.out.b
     omega
   have D3:=zz (jB.begun b2 (zl ho fun j hj=>fs.block j (zK ho hj).2 fun e=>hx9 (by rw [←e]; exact hj)) (Nat.le_refl _) hx9);have F3:=zz ((FB.out.grown hg fun j hj=>.inr (zK DB.out.row hj).1).trans fs fun i e=>.inr (by rw [e]; exact Nat.le_refl _));have dw:=zB b1 1;have dz:=zd b1 1;clear ho hg hb b1 b2 fs hx9;go_wp2_with fail
   go_roundw
   case rel=>exact ⟨k+1,_,by go_num,by omega,D3.out,F3.out⟩
   case measure=>simp [intOf]; omega
  ·obtain rfl:k=subs.length:=by omega
   have HD:=zz hd;clear hd hf;go_wp2_with fail
   go_ret
   have h9:=HD.out;rw [List.take_length] at h9;exact ⟨_,_,rfl,h9,FF.out⟩
theorem zXm {B:Nat} {e:TypeId} {s n:Nat} {v:Value} {xs:List Value} (h:w.ownsRow B e s v n xs) {b:Nat} (hb:v.ownBlock=some b) {j:Nat} (hj:j < n * s):(w.cell? ⟨b,j,none⟩).isSome=true∧w.frozen? ⟨b,j,none⟩=false:=by
 rcases h.2 with ⟨rfl,h0⟩ | ⟨g',cap',cur,rfl,hb',hh,hnc,hcm,hcs,ht⟩
 ·cases hb
 ·have hb:g'=b:=Option.some.inj hb
  subst hb;refine ⟨?_,zd hh j⟩;rw [zB hh j,Array.getElem?_eq_getElem (by have:=Nat.mul_le_mul_right s hnc; omega)];rfl
theorem uh {α:Type} {l:List α} {m i:Nat} {x y:α} (hm:m < l.length) (h:(l.set m x)[i]?=some y):(i=m∧y=x)∨(i≠m∧l[i]?=some y):=by
 rw [List.getElem?_set] at h;by_cases e:m=i
 ·subst e
  rw [if_pos rfl,if_pos hm] at h;exact .inl ⟨rfl,(Option.some.inj h).symm⟩
 ·rw [if_neg e] at h
  exact .inr ⟨fun h'=>e h'.symm,h⟩
def shT (shv:Value) (L:List ShZ) (i:Nat):Prop:=shv.ownBlock=some i∨∃(j:Nat) (z:ShZ),L[j]?=some z∧z.pv.ownBlock=some i
theorem jB.T {B db:Nat} {sv shv:Value} {L:List ShZ} (h:jB w B db sv shv L) {i:Nat} (hi:shT shv L i):B≤i∧i < w.heap.size∧i≠db:=by
 rcases hi with hi | ⟨j,z,hz,hi⟩
 ·exact ⟨(zK h.row hi).1,(zK h.row hi).2,fun e=>h.x1 (by rw [←e]; exact hi)⟩
 ·exact ⟨(zK (h.ok j z hz) hi).1,(zK (h.ok j z hz) hi).2,fun e=>h.x2 j z hz (by rw [←e]; exact hi)⟩
def GivePost (B db:Nat) (sv shv:Value) (L:List ShZ) (m:Nat) (id:Int) (pl:List (ByteArray × Int)) (p:ByteArray × Int) (w:World) (e:Ending) (w':World):Prop:=
 e=.returned (.tuple #[])∧∃pv,jB w' B db sv shv (L.set m ⟨id,pl++ [p],pv⟩)∧(∀i,shT shv (L.set m ⟨id,pl++ [p],pv⟩) i→shT shv L i∨w.heap.size≤i)∧Fr (shT shv L) w w'
theorem zKe {B db:Nat} {sv shv:Value} {L:List ShZ} (h:jB w B db sv shv L) {m:Nat} {z:ShZ} (hz:L[m]?=some z) (hl:z.pl.length < 100000) (hL:L.length≤1000) (t:ByteArray) (ht:t.size≤150000000000000) (i:Int):
  Calls Tryz.prog 294 #[.pointer (some ⟨db,0,none⟩),.int .i64 m,.string t,.int .i64 i] w (GivePost B db sv shv L m z.id z.pl (t,i) w):=by
 have hlt:=(List.getElem?_eq_some_iff.1 hz).1;obtain ⟨oa,cap,rfl,hc⟩:=xz h.row;obtain ⟨g,rfl,hob,hB,hc⟩:=hc (by omega);have c1:=hc _ _ ((xB shC 2 zHi hz (j:=1) (by omega)).trans rfl);obtain ⟨id,pl,pv⟩:=z;obtain ⟨op,cp,hpv,-,-⟩:=ze (h.ok m _ hz);dsimp only at hpv hl c1 ⊢;subst hpv;have f1:=(Fr.same w).alloc (.cells #[.string t,.int .i64 i] 169);have hc1:=fun j=>zD w #[.string t,.int .i64 i] 169 j
 have D1:=zz (h.old f1);have HC:=zz hc1;have F1:=zz f1;have HZ:=zz hz;have HOB:=zz hob;have HT:=zz ht;have dx:=fun j=>zB h.b j
 have LO:=zz (show B≤w.heap.size from by have:=h.lo; have:=zA h.b; omega);have LG:=zz (show g < w.heap.size from (zK h.row hob).2);clear h hc hz f1 hc1 hB hob ht;go_enter Tryz.func294,Tryz.ntmps294
 go_wp2_with (at_builtin; refine yI jA 2 vN (by decide) 29 169 _ 24 zTs rfl (by decide) Tryz.underlying29 _ rfl (.tmp 19) (.tmp 23) rfl B (.slice op pl.length cp) pl rfl (D1.out.ok m _ HZ.out) w.heap.size 1 rfl (t,i) HC.out ?c1 ?c2 ?c3 ?_)
 case c1=>intro u hu; simp only [jA,List.mem_cons,List.not_mem_nil,or_false] at hu; rcases hu with rfl | rfl <;> rfl
 case c2=>omega
 case c3=>exact Nat.le_trans LO.out F1.out.size
 rintro v' w2 ⟨ho,hg,hb⟩;obtain ⟨o9,c9,hv9,-,-⟩:=ze ho;rw [show (pl++ [(t,i)]).length=pl.length+1 by simp] at hv9;subst hv9;have b1:=(hg.block db (zA D1.out.b) (fun e=>D1.out.x2 m _ HZ.out e.symm)).trans D1.out.b;have r1:=zl D1.out.row fun k hk=>hg.block k (zK D1.out.row hk).2 fun e=>D1.out.x3 m _ k HZ.out e.symm hk
 have th:=zXm r1 HOB.out (j:=m * 2+1) (by omega);have r2:=vL r1 HOB.out (m * 2+1) (.slice o9 (pl.length+1) c9);rw [zHd shC 2 zHi (x':=⟨id,pl++ [(t,i)],.slice o9 (pl.length+1) c9⟩) HZ.out (by omega) rfl] at r2;have fs:Fr (fun i=>i=g) w2 (w2.setCell ⟨g,m * 2+1,none⟩ (.slice o9 (pl.length+1) c9)):=(Fr.refl (fun i=>i=g) w2).setCell (p:=⟨g,m * 2+1,none⟩) (.inl rfl) _;have sg:=(zK r1 HOB.out).1;have hpb:∀k,(Value.slice o9 (pl.length+1) c9).ownBlock=some k→(Value.slice op pl.length cp).ownBlock=some k∨k=(w.alloc (.cells #[.string t,.int .i64 i] 169)).heap.size:=fun k hk=>by
  rcases hb with hb | hb
  ·exact .inl (hb.symm.trans hk)
  ·exact .inr (Option.some.inj (hk.symm.trans hb))
 have hs1:(w.alloc (.cells #[.string t,.int .i64 i] 169)).heap.size=w.heap.size+1:=by simp
 have hgx:(Value.slice o9 (pl.length+1) c9).ownBlock≠some g:=fun e=>by
  rcases hpb g e with h1 | h1
  ·exact D1.out.x3 m _ g HZ.out h1 HOB.out
  ·have:=LG.out
   omega
 have D3:jB (w2.setCell ⟨g,m * 2+1,none⟩ (.slice o9 (pl.length+1) c9)) B db sv (.slice (some ⟨g,0,none⟩) L.length cap) (L.set m ⟨id,pl++ [(t,i)],.slice o9 (pl.length+1) c9⟩):=by
  have old:∀(j:Nat) (y:ShZ),j≠m→L[j]?=some y→∀k,y.pv.ownBlock=some k→k≠g∧some k≠(Value.slice op pl.length cp).ownBlock∧k < (w.alloc (.cells #[.string t,.int .i64 i] 169)).heap.size:=fun j y hj hy k hk=>
   ⟨fun e=>D1.out.x3 j y k hy hk (by rw [e]; exact HOB.out),fun e=>D1.out.ap j m y _ k hy HZ.out hj hk e.symm,(zK (D1.out.ok j y hy) hk).2⟩
  refine ⟨(fs.block db (zA b1) fun e=>D1.out.x1 (by rw [e]; exact HOB.out)).trans b1,by rw [List.length_set]; exact r2,fun j y hy=>?_,D1.out.lo,D1.out.x1,fun j y hy=>?_,fun j y k hy hk=>?_,fun j j' x y k hx hy hj hk=>?_,fun j y hy p hp=>?_⟩
  ·rcases uh hlt hy with ⟨rfl,rfl⟩ | ⟨hj,hy⟩
   ·exact zl ho fun k hk=>fs.block k (zK ho hk).2 fun e=>hgx (by rw [←e]; exact hk)
   ·refine zl (zl (D1.out.ok j y hy) fun k hk=>hg.block k (old j y hj hy k hk).2.2 (old j y hj hy k hk).2.1) fun k hk=>fs.block k (Nat.lt_of_lt_of_le (old j y hj hy k hk).2.2 ?_) (old j y hj hy k hk).1
    exact ((Fr.refl (fun i=>B≤i) _).grown hg fun j hj=>.inl (zK (D1.out.ok m _ HZ.out) hj).1).size
  ·rcases uh hlt hy with ⟨rfl,rfl⟩ | ⟨hj,hy⟩
   ·intro e
    rcases hpb db e with h1 | h1
    ·exact D1.out.x2 j _ HZ.out h1
    ·have:=zA D1.out.b
     omega
   ·exact D1.out.x2 j y hy
  ·rcases uh hlt hy with ⟨rfl,rfl⟩ | ⟨hj,hy⟩
   ·intro e
    have e:=Option.some.inj (HOB.out.symm.trans e);exact hgx (by rw [e]; exact hk)
   ·exact D1.out.x3 j y k hy hk
  ·rcases uh hlt hx with ⟨rfl,rfl⟩ | ⟨hj1,hx1⟩
   ·rcases uh hlt hy with ⟨rfl,rfl⟩ | ⟨hj2,hy⟩
    ·exact absurd rfl hj
    ·intro e
     obtain ⟨-,h2,h3⟩:=old j' y hj2 hy k e;rcases hpb k hk with h1 | h1
     ·exact h2 h1.symm
     ·omega
   ·rcases uh hlt hy with ⟨rfl,rfl⟩ | ⟨hj2,hy⟩
    ·intro e
     obtain ⟨-,h2,h3⟩:=old j x hj1 hx1 k hk;rcases hpb k e with h1 | h1
     ·exact h2 h1.symm
     ·omega
    ·exact D1.out.ap j j' x y k hx1 hy hj hk
  ·rcases uh hlt hy with ⟨rfl,rfl⟩ | ⟨hj,hy⟩
   ·rcases List.mem_append.1 hp with hp | hp
    ·exact D1.out.sz j _ HZ.out p hp
    ·rw [List.mem_singleton] at hp
     subst hp;exact HT.out
   ·exact D1.out.sz j y hy p hp
 have DD:=zz D3;have FG:=zz (((F1.out.mono (S':=shT (.slice (some ⟨g,0,none⟩) L.length cap) L) fun i e=>e.elim).grown hg fun j hj=>.inl (.inr ⟨m,_,HZ.out,hj⟩)).trans fs fun i e=>.inl (.inl (by rw [e]; exact HOB.out)));have TN:=zz (show ∀b,shT (.slice (some ⟨g,0,none⟩) L.length cap) (L.set m ⟨id,pl++ [(t,i)],.slice o9 (pl.length+1) c9⟩) b→shT (.slice (some ⟨g,0,none⟩) L.length cap) L b∨w.heap.size≤b from fun i hi=>by
  rcases hi with hi | ⟨j,y,hy,hi⟩
  ·exact .inl (.inl hi)
  ·rcases uh hlt hy with ⟨rfl,rfl⟩ | ⟨hj,hy⟩
   ·rcases hpb i hi with h1 | h1
    ·exact .inl (.inr ⟨_,_,HZ.out,h1⟩)
    ·exact .inr (by omega)
   ·exact .inl (.inr ⟨_,_,hy,hi⟩))
 obtain ⟨u9,hu9⟩:∃u,w2.cell? ⟨g,m * 2+1,none⟩=some u:=Option.isSome_iff_exists.1 th.1;have dz:=th.2;clear ho hg hb b1 r1 r2 th fs hpb hgx D3;go_wp2_with fail
 go_end0
 exact ⟨rfl,_,DD.out,TN.out,FG.out⟩
end
end Go.Proofs.YtfdhofabgdkkkaaGreatDoor

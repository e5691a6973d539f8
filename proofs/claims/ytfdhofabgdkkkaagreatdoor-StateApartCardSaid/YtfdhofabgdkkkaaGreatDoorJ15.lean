/- A part of the proof that what the machine is told keeps its bounds. -/
import Derived.Test.YtfdhofabgdkkkaaGreatDoorJ14
import Derived.Test.YtfdhofabgdkkkaaGreatDoorJ12
set_option maxHeartbeats 128000000
set_option maxRecDepth 100000
namespace Go.Proofs.YtfdhofabgdkkkaaGreatDoor
open Lib renaming hid→zz
open Go.RowKit Go.Fm Go.BigFrame Go.Shelf
set_option linter.unusedVariables false
set_option linter.unusedSimpArgs false
def zNh:Array Value:=#[.int .i64 0,.int .i64 0,.int .i64 0,.int .i64 0,.int .i64 0,.slice none 0 0]
def zLg (b:Bat) (rv:Value):Array Value:=#[.int .i64 b.base,.int .i64 b.span,.int .i64 b.prod,.int .i64 b.epoch,.int .i64 b.seq,rv]
def ptrs6 (bb cb:Nat):Array Value:=#[.pointer (some ⟨bb,0,none⟩),.pointer (some ⟨bb,1,none⟩),.pointer (some ⟨bb,2,none⟩),.pointer (some ⟨bb,3,none⟩),.pointer (some ⟨bb,4,none⟩),.pointer (some ⟨cb,0,none⟩)]
structure vF (w:World) (bb cb pb:Nat) (W:World) (X:Array Value) (c:Int):Prop where
 fr:Fr (fun _=>False) w W
 b:W.heap[bb]?=some (.cells X 35 (0,0))
 c:W.heap[cb]?=some (.cells #[.int .i64 c] 3 (0,0))
 p:W.heap[pb]?=some (.cells (ptrs6 bb cb) 224 (0,0))
 lo:w.heap.size≤bb
 l1:bb < cb
 l2:cb < pb
section
variable {w:World} {bb cb pb:Nat} {W W':World} {X:Array Value} {c:Int}
theorem vF.setB (h:vF w bb cb pb W X c) (j:Nat) (v:Value):vF w bb cb pb (W.setCell ⟨bb,j,none⟩ v) (X.setIfInBounds j v) c:=by
 have h1:=h.l1;have h2:=h.l2;have h3:=h.lo;exact ⟨h.fr.setCell (.inr h3) _,zE h.b v,(zV W (by omega) v).trans h.c,(zV W (by omega) v).trans h.p,h3,h1,h2⟩
theorem vF.setC (h:vF w bb cb pb W X c) (n:Int):vF w bb cb pb (W.setCell ⟨cb,0,none⟩ (.int .i64 n)) X n:=by
 have h1:=h.l1;have h2:=h.l2;have h3:=h.lo;exact ⟨h.fr.setCell (.inr (by show _≤cb; omega)) _,(zV W (by omega) _).trans h.b,zE h.c _,(zV W (by omega) _).trans h.p,h3,h1,h2⟩
theorem vF.old (h:vF w bb cb pb W X c) (hf:Fr (fun _=>False) W W'):vF w bb cb pb W' X c:=
 ⟨h.fr.tr hf,(hf.block _ (zA h.b) fun h=>h).trans h.b,(hf.block _ (zA h.c) fun h=>h).trans h.c,(hf.block _ (zA h.p) fun h=>h).trans h.p,h.lo,h.l1,h.l2⟩
theorem vF.grown (h:vF w bb cb pb W X c) {row:Option Nat} (hg:W.grownBy W' row) (hr:∀k,row=some k→pb < k):vF w bb cb pb W' X c:=by
 have h1:=h.l1;have h2:=h.l2;have h3:=h.lo;have hb:∀k,k < W.heap.size→k≤pb→W'.heap[k]?=W.heap[k]?:=fun k hk hle=>hg.block k hk fun e=>by have:=hr k e.symm; omega
 exact ⟨h.fr.grown hg fun k e=>.inr (by have:=hr k e; omega),(hb _ (zA h.b) (by omega)).trans h.b,(hb _ (zA h.c) (by omega)).trans h.c,(hb _ (zA h.p) (by omega)).trans h.p,h3,h1,h2⟩
end
theorem zv.fr {K:Nat→Prop} {B:Nat} {w w':World} {v:Value} {rs:List Rec} {S:Nat→Prop} (h:zv K B w v rs) (hf:Fr S w w') (hK:∀k,K k→¬S k) (ho:∀k,v.ownBlock=some k→¬S k):zv K B w' v rs:=by
 obtain ⟨zs,h1,h2,h3⟩:=h;exact ⟨zs,h1,zl h2 fun k hk=>hf.block k (zK h2 hk).2 (ho k hk),fun z hz=>(h3 z hz).fr hf fun k hk=>hK k hk.1⟩
def zVz (w:World) (b:Bat) (e:Ending) (w':World):Prop:=
 ∃rv,e=.returned (.tuple #[yP b rv,.bool true])∧xE (fun b=>w.heap.size≤b) w' rv b.recs∧rv.oneCell'=true∧Fr (fun _=>False) w w'
theorem zWa (K:Nat→Prop) (b:Bat) (v:Value) (w:World) (h:xE K w v b.recs) (hb:xO b):Calls Tryz.prog 202 #[yP b v] w fun e w'=>e=.returned (.int .i64 0)∧Fr (fun _=>False) w w':=
 (zMy K b v w h).mono fun e w' ⟨c,h1,h2,h3⟩=>by
  rcases h2 with ⟨rfl,-⟩ | ⟨-,h⟩
  ·exact ⟨h1,h3⟩
  ·exact (h hb).elim
theorem zAr {s:ByteArray} {a n a':Int} (h:xx s a=(n,a',0)) (w:World) (hs:s.size≤maxLen):Calls Tryz.prog 183 #[.string s,.int .i64 a] w fun e w'=>e=.returned (.tuple #[.int .i64 n,.int .i64 a',.int .i64 0])∧w=w':=
 (zDo s a w hs).mono fun e w' ⟨h1,h2⟩=>⟨by rw [h] at h1; exact h1,h2⟩
theorem inner_ok (s:ByteArray) (b:Bat) (hb:xO b) {p1 p2 p3 p4 p5:Int} {q:Nat→Nat} (hI:BodyIs s b p1 p2 p3 p4 p5 q) (w:World) (hs:s.size≤maxLen):
  Calls Tryz.prog 137 #[.string s] w (zVz w b):=by
 have HB:=zz hb;have HI:=zz hI;have HS:=zz hs;clear hb hI hs;have ST:vF w w.heap.size (w.heap.size+1) (w.heap.size+1+1) (((w.alloc (.cells zNh 35)).alloc (.cells #[.int .i64 0] 3)).alloc (.cells (ptrs6 w.heap.size (w.heap.size+1)) 224)) zNh 0:=
  ⟨(((Fr.same w).alloc _).alloc _).alloc _,by rw [zF _ (by simp; omega),zF _ (by simp),zC],by
   rw [zF _ (by simp),show w.heap.size+1=(w.alloc (.cells zNh 35)).heap.size by simp,zC],by
   rw [show w.heap.size+1+1=((w.alloc (.cells zNh 35)).alloc (.cells #[.int .i64 0] 3)).heap.size by simp]; exact zC _ _,Nat.le_refl _,by omega,by omega⟩
 have ST:Hid _:=zz ST;go_enter Tryz.func137,Tryz.ntmps137
 go_wp2_with fail
 unfold zNh ptrs6 at ST;generalize ((w.alloc (.cells #[.int .i64 0,.int .i64 0,.int .i64 0,.int .i64 0,.int .i64 0,.slice none 0 0] 35)).alloc (.cells #[.int .i64 0] 3)).alloc (.cells #[.pointer (some ⟨w.heap.size,0,none⟩),.pointer (some ⟨w.heap.size,1,none⟩),.pointer (some ⟨w.heap.size,2,none⟩),.pointer (some ⟨w.heap.size,3,none⟩),.pointer (some ⟨w.heap.size,4,none⟩),.pointer (some ⟨w.heap.size+1,0,none⟩)] 224)=W0 at *;generalize w.heap.size=bb at *;generalize bb+1=cb at *;generalize cb+1=pb at *;have S0:Hid (vF w bb cb pb W0 #[.int .i64 0,.int .i64 0,.int .i64 0,.int .i64 0,.int .i64 0,.slice none 0 0] 0):=ST;clear ST;refine wp_loop_rounds 7 ?_;have e0:W0.cell? ⟨pb,0,none⟩=some (.pointer (some ⟨bb,0,none⟩)):=(zB S0.out.p 0).trans rfl;have e1:W0.cell? ⟨bb,0,none⟩=some (.int .i64 0):=(zB S0.out.b 0).trans rfl;have e2:=zd S0.out.b 0;have T:Hid (vF w bb cb pb (W0.setCell ⟨bb,0,none⟩ (.int .i64 b.base)) #[.int .i64 b.base,.int .i64 0,.int .i64 0,.int .i64 0,.int .i64 0,.slice none 0 0] 0):=zz (S0.out.setB 0 (.int .i64 b.base));rw [rounds_succ];go_wp2_with fail
 refine (zAr HI.out.base _ HS.out).mono ?_;rintro e w' ⟨rfl,rfl⟩;go_wp2_with fail
 clear e0 e1 e2 S0;generalize hW1:W0.setCell ⟨bb,0,none⟩ (.int .i64 b.base)=W1 at *;clear hW1;have S1:=T;clear T;have e0:W1.cell? ⟨pb,1,none⟩=some (.pointer (some ⟨bb,1,none⟩)):=(zB S1.out.p 1).trans rfl;have e1:W1.cell? ⟨bb,1,none⟩=some (.int .i64 0):=(zB S1.out.b 1).trans rfl;have e2:=zd S1.out.b 1;have T:Hid (vF w bb cb pb (W1.setCell ⟨bb,1,none⟩ (.int .i64 b.span)) #[.int .i64 b.base,.int .i64 b.span,.int .i64 0,.int .i64 0,.int .i64 0,.slice none 0 0] 0):=zz (S1.out.setB 1 (.int .i64 b.span));rw [rounds_succ];go_wp2_with fail
 refine (zAr HI.out.span _ HS.out).mono ?_;rintro e w' ⟨rfl,rfl⟩;go_wp2_with fail
 clear e0 e1 e2 S1;generalize hW2:W1.setCell ⟨bb,1,none⟩ (.int .i64 b.span)=W2 at *;clear hW2;have S2:=T;clear T;have e0:W2.cell? ⟨pb,2,none⟩=some (.pointer (some ⟨bb,2,none⟩)):=(zB S2.out.p 2).trans rfl;have e1:W2.cell? ⟨bb,2,none⟩=some (.int .i64 0):=(zB S2.out.b 2).trans rfl;have e2:=zd S2.out.b 2;have T:Hid (vF w bb cb pb (W2.setCell ⟨bb,2,none⟩ (.int .i64 b.prod)) #[.int .i64 b.base,.int .i64 b.span,.int .i64 b.prod,.int .i64 0,.int .i64 0,.slice none 0 0] 0):=zz (S2.out.setB 2 (.int .i64 b.prod));rw [rounds_succ];go_wp2_with fail
 refine (zAr HI.out.prod _ HS.out).mono ?_;rintro e w' ⟨rfl,rfl⟩;go_wp2_with fail
 clear e0 e1 e2 S2;generalize hW3:W2.setCell ⟨bb,2,none⟩ (.int .i64 b.prod)=W3 at *;clear hW3;have S3:=T;clear T;have e0:W3.cell? ⟨pb,3,none⟩=some (.pointer (some ⟨bb,3,none⟩)):=(zB S3.out.p 3).trans rfl;have e1:W3.cell? ⟨bb,3,none⟩=some (.int .i64 0):=(zB S3.out.b 3).trans rfl;have e2:=zd S3.out.b 3;have T:Hid (vF w bb cb pb (W3.setCell ⟨bb,3,none⟩ (.int .i64 b.epoch)) #[.int .i64 b.base,.int .i64 b.span,.int .i64 b.prod,.int .i64 b.epoch,.int .i64 0,.slice none 0 0] 0):=zz (S3.out.setB 3 (.int .i64 b.epoch));rw [rounds_succ];go_wp2_with fail
 refine (zAr HI.out.epoch _ HS.out).mono ?_;rintro e w' ⟨rfl,rfl⟩;go_wp2_with fail
 clear e0 e1 e2 S3;generalize hW4:W3.setCell ⟨bb,3,none⟩ (.int .i64 b.epoch)=W4 at *;clear hW4;have S4:=T;clear T;have e0:W4.cell? ⟨pb,4,none⟩=some (.pointer (some ⟨bb,4,none⟩)):=(zB S4.out.p 4).trans rfl;have e1:W4.cell? ⟨bb,4,none⟩=some (.int .i64 0):=(zB S4.out.b 4).trans rfl;have e2:=zd S4.out.b 4;have T:Hid (vF w bb cb pb (W4.setCell ⟨bb,4,none⟩ (.int .i64 b.seq)) #[.int .i64 b.base,.int .i64 b.span,.int .i64 b.prod,.int .i64 b.epoch,.int .i64 b.seq,.slice none 0 0] 0):=zz (S4.out.setB 4 (.int .i64 b.seq));rw [rounds_succ];go_wp2_with fail
 refine (zAr HI.out.seq _ HS.out).mono ?_;rintro e w' ⟨rfl,rfl⟩;go_wp2_with fail
 clear e0 e1 e2 S4;generalize hW5:W4.setCell ⟨bb,4,none⟩ (.int .i64 b.seq)=W5 at *;clear hW5;have S5:=T;clear T;have e0:W5.cell? ⟨pb,5,none⟩=some (.pointer (some ⟨cb,0,none⟩)):=(zB S5.out.p 5).trans rfl;have e1:W5.cell? ⟨cb,0,none⟩=some (.int .i64 0):=(zB S5.out.c 0).trans rfl;have e2:=zd S5.out.c 0;have T:Hid (vF w bb cb pb (W5.setCell ⟨cb,0,none⟩ (.int .i64 b.recs.length)) (zLg b (.slice none 0 0)) b.recs.length):=zz (S5.out.setC b.recs.length);rw [rounds_succ];go_wp2_with fail
 refine (zAr HI.out.num _ HS.out).mono ?_;rintro e w' ⟨rfl,rfl⟩;go_wp2_with fail
 clear e0 e1 e2 S5;generalize hW6:W5.setCell ⟨cb,0,none⟩ (.int .i64 b.recs.length)=W6 at *;clear hW6;have S6:=T;clear T;rw [rounds_succ];have e1:W6.cell? ⟨cb,0,none⟩=some (.int .i64 b.recs.length):=(zB S6.out.c 0).trans rfl;go_wp2_with fail
 have hlen:=HB.out.len;refine (jt _ _ _ _ (by omega)).mono ?_;rintro e w' ⟨rfl,rfl⟩;have HLEN:=zz hlen;clear hlen;go_wp2_with fail
 clear e1 ST;generalize w'=W6 at *;go_loopw [4,41] (fun av iv wr=>∃(k:Nat) (rv:Value),iv=.int .i64 k∧av=.int .i64 (q k)∧k≤b.recs.length∧zv (fun i=>pb+1≤i) (pb+1) wr rv (b.recs.take k)∧vF w bb cb pb wr (zLg b rv) b.recs.length) (fun _ iv _=>b.recs.length - (intOf iv).toNat)
 case atStart=>exact ⟨0,_,rfl,rfl,Nat.zero_le _,zv.nil _ _ _,S6.out⟩
 case round=>
  obtain ⟨k,rv,rfl,rfl,hk,hown,hst⟩:=hrel;have O:=zz hown;have S:=zz hst;clear hown hst S6;rcases Nat.lt_or_ge k b.recs.length with hlt | hge
  ·obtain ⟨r,hr⟩:=zH hlt
   obtain ⟨⟨r1,r2,r3,r4,r5,q',m,hri⟩,hq⟩:=HI.out.each k r hr;have HRI:=zz hri;have HR:=zz hr;have HQK:=zz hq;have HOK:=zz (HB.out.recs k r hr).ok;clear hri hr hq;go_wp2_with fail
   refine (zQo s _ r HOK.out HRI.out _ HS.out).mono ?_;rintro e w8 ⟨hv,rfl,hhd,h1c,hf⟩;rw [HRI.out.last] at *;have hpb:=zA S.out.p;have hl8:=hf.size;have HH8:=hhd.mono (K':=fun i=>(pb+1≤i)∧rv.ownBlock≠some i) fun i hi hl=>⟨by omega,fun e=>by have:=(O.out.lt e).2; omega⟩
   have O8:=zz (O.out.old hf);have S8:=zz (S.out.old hf);have HH8:=zz HH8;obtain ⟨oa,cap,rfl,-⟩:=hhd;have HP:=zz (Nat.lt_of_lt_of_le hpb hl8);clear hf hl8 hpb S O;obtain ⟨RC,hRC⟩:∃RC:Array Value,RC=#[.int .i64 r.at',.int .i64 r.tm,.bool r.bare,.string r.key,.bool r.gone,.string r.val,.slice oa r.hs.length cap]:=⟨_,rfl⟩;have hfa:Fr (fun _=>False) w8 ((w8.alloc (.cells RC 95)).alloc (.cells RC 95)):=((Fr.same w8).alloc _).alloc _;have O9:=zz (O8.out.old hfa);have S9:=zz (S8.out.old hfa);have HH9:=zz (HH8.out.old hfa);have hsz9:((w8.alloc (.cells RC 95)).alloc (.cells RC 95)).heap.size=w8.heap.size+1+1:=by simp
   have HSZ:=zz hsz9;have hc9:∀j,((w8.alloc (.cells RC 95)).alloc (.cells RC 95)).cell? ⟨w8.heap.size+1,j,none⟩=(yr r (.slice oa r.hs.length cap)).toArray[j]?:=fun j=>by
    have:=zD (w8.alloc (.cells RC 95)) RC 95 j
    rw [show (w8.alloc (.cells RC 95)).heap.size=w8.heap.size+1 by simp] at this;rw [this,hRC];rfl
   have HC9:=zz hc9;clear hsz9 hc9 hfa HH8;have d5:(w8.alloc (.cells RC 95)).cell? ⟨bb,5,none⟩=some rv:=(zB (S8.out.old ((Fr.same w8).alloc _)).b 5).trans rfl;subst hRC;clear O8 S8;unfold xy;go_wp2_with (at_builtin; refine kW _ rfl (.tmp 54) (.tmp 56) rfl (fun i=>pb+1≤i) (pb+1) rv (b.recs.take k) rfl O9.out (w8.heap.size+1) 1 rfl r (.slice oa r.hs.length cap) HC9.out HH9.out rfl ?c2 ?c3 ?_)
   case c2=>have:=HLEN.out; simp; omega
   case c3=>rw [HSZ.out]; have:=HP.out; omega
   intro v' w11 hown hg hcase;have S11:=S9.out.grown hg fun k hk=>(O9.out.lt hk).1
   clear d5 S9 O9 HH9 HC9;have f5:=zd S11.b 5;have e5:w11.cell? ⟨bb,5,none⟩=some rv:=(zB S11.b 5).trans rfl;have S12:Hid (vF w bb cb pb _ (zLg b v') b.recs.length):=zz (S11.setB 5 v');have hl1:=S11.l1;have hl2:=S11.l2;have O12:=zv.fr (S:=fun i=>i=bb) (w':=w11.setCell ⟨bb,5,none⟩ v') hown (Fr.setCell (S:=fun i=>i=bb) (p:=⟨bb,5,none⟩) (Fr.refl _ _) (.inl rfl) _) (fun i hi e=>by omega) (fun i hi e=>by have:=(hown.lt hi).1; omega);have ht:b.recs.take k++ [r]=b.recs.take (k+1):=by rw [List.take_add_one,HR.out]; rfl
   rw [ht] at O12;have hq1:((q k:Int)+((vd r).size:Int))=((q (k+1):Nat):Int):=by rw [HQK.out,Int.natCast_add]
   obtain ⟨oa',cap',hv'⟩:=hown.slice;rw [show (b.recs.take k++ [r]).length=k+1 by simp; omega] at hv';subst hv';have O12:=zz O12;have hlen:=HLEN.out;clear hown hg hcase S11 ht hl1 hl2;go_wp2_with fail
   go_roundw
   case rel=>exact ⟨k+1,_,by go_num,by rw [hq1],by omega,O12.out,S12.out⟩
   case measure=>simp [intOf]; omega
  ·have hkeq:k=b.recs.length:=by omega
   subst hkeq;have hall:b.recs.take b.recs.length=b.recs:=List.take_length;rw [hall] at O;have hlast:=HI.out.last;rw [hlast];obtain ⟨oa,cap,rfl⟩:=O.out.slice;clear hall hge hk hlast;go_wp2_with fail
   have hdx:∀y:Lcl.InS (fun w'=>Fr (fun _=>False) wr w'),y.w.heap[bb]?=some (.cells (zLg b (.slice oa b.recs.length cap)) 35 (0,0)):=fun y=>(y.h.block _ (zA S.out.b) fun h=>h).trans S.out.b
   have x0:∀y:Lcl.InS (fun w'=>Fr (fun _=>False) wr w'),y.w.cell? ⟨bb,0,none⟩=some (.int .i64 b.base):=fun y=>(zB (hdx y) 0).trans rfl
   have x1:∀y:Lcl.InS (fun w'=>Fr (fun _=>False) wr w'),y.w.cell? ⟨bb,1,none⟩=some (.int .i64 b.span):=fun y=>(zB (hdx y) 1).trans rfl
   have x2:∀y:Lcl.InS (fun w'=>Fr (fun _=>False) wr w'),y.w.cell? ⟨bb,2,none⟩=some (.int .i64 b.prod):=fun y=>(zB (hdx y) 2).trans rfl
   have x3:∀y:Lcl.InS (fun w'=>Fr (fun _=>False) wr w'),y.w.cell? ⟨bb,3,none⟩=some (.int .i64 b.epoch):=fun y=>(zB (hdx y) 3).trans rfl
   have x4:∀y:Lcl.InS (fun w'=>Fr (fun _=>False) wr w'),y.w.cell? ⟨bb,4,none⟩=some (.int .i64 b.seq):=fun y=>(zB (hdx y) 4).trans rfl
   have x5:∀y:Lcl.InS (fun w'=>Fr (fun _=>False) wr w'),y.w.cell? ⟨bb,5,none⟩=some (.slice oa b.recs.length cap):=fun y=>(zB (hdx y) 5).trans rfl
   have fchk:∀y:Lcl.InS (fun w'=>Fr (fun _=>False) wr w'),Calls Tryz.prog 202 #[.agg #[.int .i64 b.base,.int .i64 b.span,.int .i64 b.prod,.int .i64 b.epoch,.int .i64 b.seq,.slice oa b.recs.length cap]] y.w fun e w'=>e=.returned (.int .i64 0)∧∃y:Lcl.InS (fun w'=>Fr (fun _=>False) wr w'),w'=y.w:=fun y=>uB y (zWa (fun i=>pb+1≤i) b _ _ ((O.out.old y.h).reads (fun i h _=>h) fun i h _=>h) HB.out)
   clear hdx;refine Lcl.wp_region_part (C:=fun w'=>∃y:Lcl.InS (fun w'=>Fr (fun _=>False) wr w'),w'=y.w) (by kernel_rfl) [(true,[1,2,3,4,5]),(false,[0,6,7]),(true,[8,9])] #[0,0,0,4,14,30,62,126,254,510,255,2047] 2 #[true,true,true,true,true,true,true,true,true,true,false,false] (by kernel_rfl) (by kernel_rfl) (by kernel_rfl) ⟨⟨wr.drew,(Fr.same wr).drew⟩,rfl⟩ (fun d c a v w h=>by cases d <;> exact h) ?_;simp only [Lcl.opsOf,List.map_cons,List.map_nil,List.getElem?_toArray,List.getElem?_cons_succ,List.getElem?_cons_zero,Option.getD_some];refine Lcl.wpSegs_t ?_;repeat (go_big_quiet_step (with_reducible rfl))
   refine wpQuiet_nil ?_;refine Lcl.wpSegs_f ?_;repeat (go_big_quiet_step (first | with_reducible rfl | exact fchk _))
   refine wpQuiet_nil ?_;refine Lcl.wpSegs_t ?_;repeat (go_big_quiet_step (with_reducible rfl))
   refine wpQuiet_nil ?_;refine Lcl.wpSegs_nil ?_;rintro _ ⟨y,rfl⟩;clear fchk x0 x1 x2 x3 x4 x5;refine Lcl.wpAny_of_G (S:=fun _=>True) (need:=fun j=>([]:List Nat).contains j) _ _ _ _ ?_;refine Lcl.wpG_run (needs:=[]) [10,11] _ _ _ (by kernel_rfl) ?_;simp only [List.map_cons,List.map_nil,List.getElem?_toArray,List.getElem?_cons_succ,List.getElem?_cons_zero,Option.getD_some];have S9:=S.out.old y.h;have O9:=O.out.old y.h;have hlo:=S9.lo;have hl1:=S9.l1;have hl2:=S9.l2;generalize y.w=w9 at *;refine jr rfl 35 (.tmp 2) (.tmp 61) rfl bb rfl 35 (zLg b (.slice oa b.recs.length cap)) (yP b (.slice oa b.recs.length cap)) rfl S9.b rfl (by kernel_rfl) rfl ?_;intro w10 hb hg;have hf10:Fr (fun _=>False) w w10:=S9.fr.grown hg fun k e=>by cases e; exact .inr hlo
   have hr10:xE (fun b=>w.heap.size≤b) w10 (.slice oa b.recs.length cap) b.recs:=
    (O9.fr (S:=fun i=>i=bb) (Fr.grown (Fr.refl _ w9) hg fun k e=>by cases e; exact .inl rfl) (fun i hi e=>by omega) (fun i hi e=>by have:=(O9.lt hi).1; omega)).reads (fun i h _=>by omega) fun i h _=>by omega
   have FF:=zz hf10;have RR:=zz hr10;have HB10:=zz hb;clear hb hg hf10 hr10 S9 O9 hlo hl1 hl2 S O;have d0:w10.cell? ⟨bb,0,none⟩=some (.int .i64 b.base):=(zB HB10.out 0).trans rfl;have d1:w10.cell? ⟨bb,1,none⟩=some (.int .i64 b.span):=(zB HB10.out 1).trans rfl;have d2:w10.cell? ⟨bb,2,none⟩=some (.int .i64 b.prod):=(zB HB10.out 2).trans rfl;have d3:w10.cell? ⟨bb,3,none⟩=some (.int .i64 b.epoch):=(zB HB10.out 3).trans rfl;have d4:w10.cell? ⟨bb,4,none⟩=some (.int .i64 b.seq):=(zB HB10.out 4).trans rfl;have d5:w10.cell? ⟨bb,5,none⟩=some (.slice oa b.recs.length cap):=(zB HB10.out 5).trans rfl;go_wp2_with fail
   refine bodyPost_ret (v:=.tuple #[yP b (.slice oa b.recs.length cap),.bool true]) (by
    simp [results,Tryz.f137,go_sem,yP,d0,d1,d2,d3,d4,d5]) rfl ⟨_,rfl,RR.out,rfl,FF.out⟩
def BDecPost (w:World) (b:Bat) (z:Int) (e:Ending) (w':World):Prop:=
 ∃rv,e=.returned (.tuple #[yP b rv,.int .i64 z,.int .i64 0])∧xE (fun b=>w.heap.size≤b) w' rv b.recs∧rv.oneCell'=true∧Fr (fun _=>False) w w'
theorem zTh {s:ByteArray} {a n a' c:Int} (h:kX s a=(n,a',c)) (w:World) (hs:s.size≤maxLen):Calls Tryz.prog 136 #[.string s,.int .i64 a,.int .i64 4] w fun e w'=>e=.returned (.tuple #[.int .i64 n,.int .i64 a',.int .i64 c])∧Fr (fun _=>False) w w':=
 (zUz s a w hs).mono fun e w' ⟨h1,h2⟩=>⟨by rw [h] at h1; exact h1,h2⟩
theorem zQp (s:ByteArray) (p:Nat) (b:Bat) (hb:xO b) (hI:BatIs s p b) (w:World) (hs:s.size≤1000000000) (hst:zc w):
  Calls Tryz.prog 77 #[.string s,.int .i64 p] w (BDecPost w b ((p+(ye b).size:Nat):Int)):=by
 have HB:=zz hb;have HI:=zz hI;have HS:=zz hs;have HST:=zz hst;have OB:=zz (zC w (.cells zNh 35));have FA:=zz ((Fr.same w).alloc (.cells zNh 35));have hml:s.size≤maxLen:=by unfold maxLen; omega
 have HML:=zz hml;clear hb hI hst hml hs;unfold zNh at OB FA;go_enter Tryz.func77,Tryz.ntmps77
 go_wp2_with fail
 refine (zTh HI.out.r1 _ HML.out).mono ?_;rintro e w1 ⟨rfl,hf⟩;have F1:=zz (FA.out.tr hf);have OB1:=zz ((hf.block _ (zA OB.out) fun h=>h).trans OB.out);clear hf FA OB;have hsum:=zKz (xN b);obtain ⟨m,hm⟩:∃m:Nat,zDp (xN b)=m:=⟨(zDp (xN b)).toNat,by omega⟩;have HM:=zz hm;have hml:m < 4294967296:=by omega
 have hr2:=HI.out.r2;rw [hm,Int.toNat_natCast] at hr2;have HR2:=zz hr2;clear hm hsum hr2;go_wp2_with fail
 refine (zTh HR2.out _ HML.out).mono ?_;rintro e w2 ⟨rfl,hf⟩;have F2:=zz (F1.out.tr hf);have OB2:=zz ((hf.block _ (zA OB1.out) fun h=>h).trans OB1.out);clear hf F1 OB1;have hn:=HB.out.body;have hroom:=HI.out.room;have hs:=HS.out;obtain ⟨n,hN⟩:∃n,n=(xN b).size:=⟨_,rfl⟩;have HN:=zz hN;rw [←hN] at hn hroom ⊢;clear hN;go_wp2_with fail
 have hcut:s.extract (p+8) (p+8+n)=xN b:=by rw [HN.out]; exact HI.out.cut
 rw [hcut];refine (zMu _ _ (by unfold maxLen; rw [←HN.out]; omega) (HST.out.old F2.out)).mono ?_;rintro e w3 ⟨rfl,hf⟩;have F3:=zz (F2.out.tr hf);have OB3:=zz ((hf.block _ (zA OB2.out) fun h=>h).trans OB2.out);clear hf F2 OB2;rw [HM.out];have hmw:IntKind.i64.wrap (m:Int)=m:=by
  simp only [IntKind.wrap_i64];omega
 go_wp2_with fail
 rw [hcut];obtain ⟨p1,p2,p3,p4,p5,q,hbi⟩:=zVw HB.out;refine (inner_ok (xN b) b HB.out hbi _ (by unfold maxLen; rw [←HN.out]; omega)).mono ?_;rintro e w4 ⟨rv,rfl,hr,h1c,hf⟩;have F4:=F3.out.tr hf;have OB4:=(hf.block _ (zA OB3.out) fun h=>h).trans OB3.out;have hl3:=zA OB3.out;have hr4:=hr.mono (K':=fun b=>w.heap.size < b) fun i hi _=>Nat.lt_of_lt_of_le hl3 hi
 obtain ⟨oa,cap,rfl,-⟩:=hr;have F5:=zz (F4.alloc (.cells (zLg b (.slice oa b.recs.length cap)) 35));have OB5:=zz ((zF (.cells (zLg b (.slice oa b.recs.length cap)) 35) (zA OB4)).trans OB4);have R5:=zz (hr4.old ((Fr.same w4).alloc (.cells (zLg b (.slice oa b.recs.length cap)) 35)));have HLO:=zz (zA OB4);clear hf F3 OB3 F4 OB4 hr4 hcut hl3;unfold zLg at *;unfold yP;have hne:w.heap.size≠w4.heap.size:=by have:=HLO.out; omega
 go_wp2_with (with_reducible refine jr rfl 35 (.tmp 4) (.tmp 72) rfl w.heap.size rfl 35 #[.int .i64 0,.int .i64 0,.int .i64 0,.int .i64 0,.int .i64 0,.slice none 0 0] (.agg #[.int .i64 b.base,.int .i64 b.span,.int .i64 b.prod,.int .i64 b.epoch,.int .i64 b.seq,.slice oa b.recs.length cap]) rfl OB5.out rfl (by kernel_rfl) rfl ?_)
 intro w6 hb6 hg6;have F6:=zz (F5.out.grown hg6 fun k e=>by cases e; exact .inr (Nat.le_refl _));have hlo:=HLO.out;have R6:xE (fun b=>w.heap.size≤b) w6 (.slice oa b.recs.length cap) b.recs:=
  (R5.out.fr (S:=fun i=>i=w.heap.size) (Fr.grown (Fr.refl _ _) hg6 fun k e=>by cases e; exact .inl rfl) fun i hi e=>by omega).mono fun i hi _=>Nat.le_of_lt hi
 have R6:=zz R6;have HB6:=zz hb6;clear hb6 hg6 hlo;have d0:w6.cell? ⟨w.heap.size,0,none⟩=some (.int .i64 b.base):=(zB HB6.out 0).trans rfl;have d1:w6.cell? ⟨w.heap.size,1,none⟩=some (.int .i64 b.span):=(zB HB6.out 1).trans rfl;have d2:w6.cell? ⟨w.heap.size,2,none⟩=some (.int .i64 b.prod):=(zB HB6.out 2).trans rfl;have d3:w6.cell? ⟨w.heap.size,3,none⟩=some (.int .i64 b.epoch):=(zB HB6.out 3).trans rfl;have d4:w6.cell? ⟨w.heap.size,4,none⟩=some (.int .i64 b.seq):=(zB HB6.out 4).trans rfl;have d5:w6.cell? ⟨w.heap.size,5,none⟩=some (.slice oa b.recs.length cap):=(zB HB6.out 5).trans rfl;go_wp2_with fail
 refine bodyPost_ret (v:=.tuple #[yP b (.slice oa b.recs.length cap),.int .i64 ((p+(ye b).size:Nat):Int),.int .i64 0]) (by
  have hz:((p+(ye b).size:Nat):Int)=p+8+n:=by rw [zJg,HN.out]; omega
  simp [results,Tryz.f77,go_sem,yP,d0,d1,d2,d3,d4,d5,hz]) rfl ⟨_,rfl,R6.out,rfl,F6.out⟩
open Go.Maps
section
variable {w w':World} {cb:Nat} {s:ByteArray} {bad:Bool} {S:Nat→Prop}
def km (b:Bat):Bool:=decide (b.base=0) && (decide (b.span=0) && (decide (b.prod=0) && (decide (b.epoch=0) && (decide (b.seq=0) && decide (b.recs.length=0)))))
theorem zQq (b:Bat) (oa:Option Addr) (n cap:Nat) (hn:n=b.recs.length) (w:World):Calls Tryz.prog 188 #[yP b (.slice oa n cap)] w fun e w'=>e=.returned (.bool (km b))∧Fr (fun _=>False) w w':=by
 subst hn;obtain ⟨bbase,bspan,bprod,bepoch,bseq,brecs⟩:=b;unfold yP km;dsimp only;generalize brecs.length=n;have FF:=zz ((Fr.same w).alloc (.cells #[.int .i64 bbase,.int .i64 bspan,.int .i64 bprod,.int .i64 bepoch,.int .i64 bseq,.slice oa n cap] 35));by_cases h1:bbase=0
 ·rw [decide_eq_true h1,Bool.true_and]
  subst h1;by_cases h2:bspan=0
  ·rw [decide_eq_true h2,Bool.true_and]
   subst h2;by_cases h3:bprod=0
   ·rw [decide_eq_true h3,Bool.true_and]
    subst h3;by_cases h4:bepoch=0
    ·rw [decide_eq_true h4,Bool.true_and]
     subst h4;by_cases h5:bseq=0
     ·rw [decide_eq_true h5,Bool.true_and]
      subst h5;by_cases h6:n=0
      ·rw [decide_eq_true h6]
       subst h6;go_enter Tryz.func188,Tryz.ntmps188
       go_wp2_with fail
       go_ret
       exact ⟨rfl,FF.out⟩
      ·rw [decide_eq_false h6]
       have h7:¬(n:Int)=0:=by omega
       clear h6;go_enter Tryz.func188,Tryz.ntmps188
       go_wp2_with fail
       go_ret
       exact ⟨by first | rfl | (congr 2; simpa using h7),FF.out⟩
     ·rw [decide_eq_false h5,Bool.false_and]
      go_enter Tryz.func188,Tryz.ntmps188
      go_wp2_with fail
      go_ret
      exact ⟨rfl,FF.out⟩
    ·rw [decide_eq_false h4,Bool.false_and]
     go_enter Tryz.func188,Tryz.ntmps188
     go_wp2_with fail
     go_ret
     exact ⟨rfl,FF.out⟩
   ·rw [decide_eq_false h3,Bool.false_and]
    go_enter Tryz.func188,Tryz.ntmps188
    go_wp2_with fail
    go_ret
    exact ⟨rfl,FF.out⟩
  ·rw [decide_eq_false h2,Bool.false_and]
   go_enter Tryz.func188,Tryz.ntmps188
   go_wp2_with fail
   go_ret
   exact ⟨rfl,FF.out⟩
 ·rw [decide_eq_false h1,Bool.false_and]
  go_enter Tryz.func188,Tryz.ntmps188
  go_wp2_with fail
  go_ret
  exact ⟨rfl,FF.out⟩
open Classical in
noncomputable def uU (b:Bat):ByteArray:=if km b=true then ByteArray.empty else if xO b then ye b else ByteArray.empty
open Classical in
noncomputable def zCn (b:Bat):Bool:=km b || decide (xO b)
theorem zCo {b:Bat} (h:xO b):(ye b).size≤60008:=by
 unfold ye;have h1:=h.body;have h2:=jG (xN b).size;have h3:=jG (zDp (xN b)).toNat;rw [ByteArray.size_append,ByteArray.size_append];omega
theorem zNi (h:jQ w cb s bad) (xb j:Nat) (K:Nat→Prop) (b:Bat) (rv:Value) (hb:zCd w ⟨xb,j,none⟩ b rv) (hr:xE K w rv b.recs) (hne:xb≠cb) (hK:¬K cb) (hs:s.size≤1600000000000000) (hst:zc w):
  Calls Tryz.prog 122 #[.pointer (some ⟨cb,0,none⟩),.pointer (some ⟨xb,j,none⟩),.bool true] w (jf w cb (s++zI (uU b)) (bad || !zCn b)):=by
 obtain ⟨oa,cap,hrv,hrr⟩:=id hr;have RV:=zz hrv;have hsz:=zA h;have f0:=(Fr.same w).alloc (.cells #[.string ByteArray.empty] 9);have x0:=zC w (.cells #[.string ByteArray.empty] 9);have c0:=f0.cel hb.c0;have c1:=f0.cel hb.c1;have c2:=f0.cel hb.c2;have c3:=f0.cel hb.c3;have c4:=f0.cel hb.c4;have c5:=f0.cel hb.c5;have dd:=fun j=>zB (h.old f0) j
 have HB:=zz (hb.to (f0.block _ hb.lt fun h=>h));have HR:=zz (hr.old f0);have H0:=zz (h.old f0);have X0:=zz x0;have F0:=zz f0;have ST:=zz (hst.old f0);have HE:=zz (zQq b oa b.recs.length cap rfl);subst hrv;have HEN:=zz (kE K b (.slice oa b.recs.length cap));clear hrr h hb hr hst;unfold yP at HE HEN;go_enter Tryz.func122,Tryz.ntmps122
 have x0e:(w.alloc (.cells #[.string ⟨#[]⟩] 9))=(w.alloc (.cells #[.string ByteArray.empty] 9)):=rfl;go_wp2_with fail
 generalize (w.alloc (.cells #[.string ByteArray.empty] 9))=w0 at *;refine (HE.out w0).mono ?_;rintro e w1 ⟨rfl,hf1⟩;have H1:=zz (H0.out.old hf1);have X1:=zz ((hf1.block _ (zA X0.out) fun h=>h).trans X0.out);have F1:=zz (F0.out.tr hf1);have B1:=zz (HB.out.to (hf1.block _ HB.out.lt fun h=>h));have R1:=zz (HR.out.old hf1);have S1:=zz (ST.out.old hf1);clear hf1 c0 c1 c2 c3 c4 c5 dd HE f0 x0 H0 X0 F0 HB HR ST x0e RV;by_cases he:km b=true
 ·have OT:=zz (show uU b=ByteArray.empty from if_pos he)
  have OK:=zz (show (bad || !zCn b)=bad by unfold zCn; rw [he]; cases bad <;> rfl);rw [he];have W:=zz (yw H1.out ⟨w.heap.size,0,none⟩ ByteArray.empty 60008 (Nat.zero_le _) ((zB X1.out 0).trans rfl) (by show w.heap.size≠cb; omega) (by omega));rw [show (bad || !okT ByteArray.empty 60008)=bad by cases bad <;> rfl] at W;go_wp2_with fail
  refine W.out.mono ?_;rintro e w2 ⟨rfl,h2,f2⟩;have H2:=zz h2;have F2:=zz ((F1.out.mono (S':=fun i=>i=cb) fun _ h=>h.elim).trans f2 fun _ h=>.inl h);have dd:=fun j=>zB h2 j
  clear h2 f2 W;go_wp2_with fail
  go_end0
  rw [OT.out,OK.out];exact ⟨rfl,H2.out,F2.out⟩
 ·have he2:km b=false:=by simpa using he
  rw [he2];have c0:=B1.out.c0;have c1:=B1.out.c1;have c2:=B1.out.c2;have c3:=B1.out.c3;have c4:=B1.out.c4;have c5:=B1.out.c5;have W:=zz (HEN.out w1 R1.out S1.out);have HE2:=zz he2;clear he he2;go_wp2_with fail
  refine W.out.mono ?_;rintro e w2 ⟨hcase,hf2⟩;have H2:=zz (H1.out.old hf2);have X2:=zz ((hf2.block _ (zA X1.out) fun h=>h).trans X1.out);have F2:=zz (F1.out.tr hf2);clear hf2 c0 c1 c2 c3 c4 c5 W HEN H1 X1 F1 B1 R1 S1;rcases hcase with ⟨hok,rfl⟩ | ⟨hok,rfl⟩
  ·have OT:=zz (show uU b=ye b by unfold uU; rw [HE2.out,if_neg (by simp),if_pos hok])
   have OK:=zz (show (bad || !zCn b)=bad by simp [zCn,HE2.out,hok]);have BS:=zz (zCo hok);have W:=zz (jv H2.out true);rw [show (bad || !true)=bad by cases bad <;> rfl] at W;clear hok;go_wp2_with fail
   refine W.out.mono ?_;rintro e w3 ⟨rfl,h3,f3⟩;have X3:=(f3.block _ (zA X2.out) (by omega)).trans X2.out;have dd:=fun j=>zB X3 j
   have fz:=fun j=>zd X3 j
   have hf4:Fr (fun i=>i=w.heap.size) w3 (w3.setCell ⟨w.heap.size,0,none⟩ (.string (ye b))):=(Fr.refl (fun i=>i=w.heap.size) w3).setCell (p:=⟨w.heap.size,0,none⟩) (.inl rfl) _;have x4:=zE X3 (o:=0) (.string (ye b));have h4:=h3.fr hf4 (by omega);have F4:=zz (((F2.out.mono (S':=fun i=>i=cb) fun _ h=>h.elim).trans f3 fun _ h=>.inl h).trans hf4 fun i h=>.inr (by omega));have W4:=zz (yw h4 ⟨w.heap.size,0,none⟩ (ye b) 60008 (by have:=BS.out; omega) ((zB x4 0).trans rfl) (by show w.heap.size≠cb; omega) (by omega));rw [show (bad || !okT (ye b) 60008)=bad by unfold okT; rw [decide_eq_true (by have:=BS.out; omega)]; cases bad <;> rfl] at W4;clear W h3 f3 X3 hf4 x4 h4;go_wp2_with fail
   refine W4.out.mono ?_;rintro e w5 ⟨rfl,h5,f5⟩;have H5:=zz h5;have F5:=zz (F4.out.trans f5 fun _ h=>.inl h);have d5:=fun j=>zB h5 j
   clear h5 f5 W4 dd fz;go_wp2_with fail
   go_end0
   rw [OT.out,OK.out];exact ⟨rfl,H5.out,F5.out⟩
  ·have OT:=zz (show uU b=ByteArray.empty by unfold uU; rw [HE2.out,if_neg (by simp),if_neg hok])
   have OK:=zz (show (bad || !zCn b)=true by simp [zCn,HE2.out,hok]);have W:=zz (jv H2.out false);rw [show (bad || !false)=true by cases bad <;> rfl] at W;clear hok;go_wp2_with fail
   refine W.out.mono ?_;rintro e w3 ⟨rfl,h3,f3⟩;have X3:=(f3.block _ (zA X2.out) (by omega)).trans X2.out;have dd:=fun j=>zB X3 j
   have fz:=fun j=>zd X3 j
   have hf4:Fr (fun i=>i=w.heap.size) w3 (w3.setCell ⟨w.heap.size,0,none⟩ (.string ByteArray.empty)):=(Fr.refl (fun i=>i=w.heap.size) w3).setCell (p:=⟨w.heap.size,0,none⟩) (.inl rfl) _;have x4:=zE X3 (o:=0) (.string ByteArray.empty);have h4:=h3.fr hf4 (by omega);have F4:=zz (((F2.out.mono (S':=fun i=>i=cb) fun _ h=>h.elim).trans f3 fun _ h=>.inl h).trans hf4 fun i h=>.inr (by omega));have W4:=zz (yw h4 ⟨w.heap.size,0,none⟩ ByteArray.empty 60008 (Nat.zero_le _) ((zB x4 0).trans rfl) (by show w.heap.size≠cb; omega) (by omega));rw [show (true || !okT ByteArray.empty 60008)=true by rfl] at W4;clear W h3 f3 X3 hf4 x4 h4;go_wp2_with fail
   refine W4.out.mono ?_;rintro e w5 ⟨rfl,h5,f5⟩;have H5:=zz h5;have F5:=zz (F4.out.trans f5 fun _ h=>.inl h);have d5:=fun j=>zB h5 j
   clear h5 f5 W4 dd fz;go_wp2_with fail
   go_end0
   rw [OT.out,OK.out];exact ⟨rfl,H5.out,F5.out⟩
end
end Go.Proofs.YtfdhofabgdkkkaaGreatDoor

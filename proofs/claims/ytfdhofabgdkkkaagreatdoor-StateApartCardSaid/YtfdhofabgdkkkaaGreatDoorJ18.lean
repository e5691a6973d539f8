/- A part of the proof that what the machine is told keeps its bounds. -/
import Derived.Test.YtfdhofabgdkkkaaGreatDoorJ17
import Derived.Test.YtfdhofabgdkkkaaGreatDoorJ15
set_option maxHeartbeats 128000000
set_option maxRecDepth 100000
namespace Go.Proofs.YtfdhofabgdkkkaaGreatDoor
open Lib renaming hid→zz
open Go.RowKit Go.Fm Go.BigFrame Go.Shelf Go.Maps
set_option linter.unusedVariables false
set_option linter.unusedSimpArgs false
theorem zZ {S:Nat→Prop} {a w:World} (h:Fr S a w) {g:Nat} (hp:S g∨a.heap.size≤g) (cs:Array Value):Fr S a (w.setRow g cs):=
 ⟨h.os,h.tape,h.output,Nat.le_trans h.size (by simp),fun k hk hn=>(setRow_other w g k cs (fun e=>by subst e; rcases hp with h1 | h1 <;> first | exact hn h1 | omega)).trans (h.block k hk hn)⟩
section
variable {w w':World} {S:Nat→Prop}
theorem je.cut {pb n:Nat} {F:ur} (h:je w pb S n F):je w pb (fun i=>S i∧i < w.heap.size) n F:=by
 obtain ⟨mb,L,h1,h2,h3,h4⟩:=h;refine ⟨mb,L,h1,h2,fun i hi=>⟨h3 i hi,?_⟩,h4⟩;rcases hi with e | e | ⟨x,hx,e⟩
 ·subst e; exact zA h1.b
 ·subst e; exact h1.m.lt
 ·subst e; exact zA (h1.el x hx).1.b
def atB (d:zR) (b:Bat):Bat:= { b with base:=d.en }
def kp (w:World) (d:zR) (b0:Bat) (e:Ending) (w':World):Prop:=
 (¬(xO (atB d b0)∧(ye (atB d b0)).size≤50000)∧e=.returned (xC 1 0)∧Fr (fun _=>False) w w')∨
 ((xO (atB d b0)∧(ye (atB d b0)).size≤50000)∧∃x again c,zLc d.F (atB d b0)=(x,again,c)∧(
  ((c≠0∨again=true)∧e=.returned (if c=0 then xC 0 x else xC c 0)∧Fr (fun _=>False) w w')∨
  (c=0∧again=false∧e=.returned (xC 0 d.en)∧∃d':zR,jT w' d'∧d'.xb=d.xb∧d'.st=d.st∧d'.en=d.en+b0.span∧d'.bats=d.bats++ [atB d b0]∧d'.F=vh d.F (atB d b0)∧d'.n=d.n+1∧(∀i,d'.T i→d.T i∨w.heap.size≤i)∧Fr d.T w w')))
theorem yB (at':Int) (w:World):Calls Tryz.prog 32 #[.int .i64 at',.int .i64 0] w fun r w'=>r=.returned (xC 0 at')∧Fr (fun _=>False) w w':=by
 refine (zGo at' 0 w).mono ?_;rintro e w' ⟨rfl,hf⟩;exact ⟨rfl,hf⟩
theorem yh (at' c:Int) (hc:c≠0) (w:World):Calls Tryz.prog 32 #[.int .i64 at',.int .i64 c] w fun r w'=>r=.returned (xC c 0)∧Fr (fun _=>False) w w':=by
 refine (zGo at' c w).mono ?_;rintro e w' ⟨rfl,hf⟩;exact ⟨by rw [if_neg hc],hf⟩
def zS (e x st en m g l:Int) (bv tv pv:Value):Array Value:=#[.int .i64 e,.int .i64 x,.int .i64 st,.int .i64 en,.int .i64 m,.int .i64 g,.int .i64 l,bv,tv,pv]
theorem zGt (e x st en m g l:Int) {bv tv pv:Value} (h1:bv.oneCell'=true) (h2:tv.oneCell'=true) (h3:pv.oneCell'=true):(zS e x st en m g l bv tv pv).all (·.oneCell')=true:=by
 rw [Array.all_eq_true_iff_forall_mem];intro v hv;simp only [zS,List.mem_toArray,List.mem_cons,List.not_mem_nil,or_false] at hv;rcases hv with rfl | rfl | rfl | rfl | rfl | rfl | rfl | rfl | rfl | rfl <;> first | rfl | exact h1 | exact h2 | exact h3
section
variable {ops:Array Oper} {rest:List Oper} {o:Oper} {a:Act} {Q:Exit→Act→World→Prop}
theorem zJ (hgd:o.guard=none) (x y:Operand) (ho:o.op=.store 31 x y) (g:Nat) (e c:Int) (hx:a.eval x=.pointer (some ⟨g,0,none⟩)) (hy:a.eval y=xC e c)
  (old:Array Value) (hg:w.heap[g]?=some (.cells old 31 (0,0))) (hold:old.size=10)
  (h:wpList Tryz.prog ops Q rest (a.put o.dst undef) (w.setRow g (zS e c 0 0 0 0 0 (.slice none 0 0) (.slice none 0 0) (.slice none 0 0)))):wpList Tryz.prog ops Q (o::rest) a w:=
 wpList_store_row hgd 31 x y ho g (zS e c 0 0 0 0 0 (.slice none 0 0) (.slice none 0 0) (.slice none 0 0)) hx hy 31 old hg (by kernel_rfl) hold (zGt _ _ _ _ _ _ _ rfl rfl rfl) h
end
theorem vJ {K:Nat→Prop} {B:Nat} {v:Value} {bs:List Bat} (h:za K B w v bs) (hf:Fr S w w') (h1:∀k,v.ownBlock=some k→¬S k) (h2:∀k,K k→¬S k):za K B w' v bs:=by
 obtain ⟨zs,e,h3,h4⟩:=h;exact ⟨zs,e,zl h3 fun k hk=>hf.block k (zK h3 hk).2 (h1 k hk),fun z hz=>(h4 z hz).fr hf fun k hk=>h2 k hk.1⟩
theorem zWg {K K':Nat→Prop} {B:Nat} {v:Value} {bs:List Bat} (h:za K B w v bs) (h2:∀k,K k→K' k):za K' B w v bs:=by
 obtain ⟨zs,e,h3,h4⟩:=h;exact ⟨zs,e,h3,fun z hz=>(h4 z hz).mono fun k hk _=>⟨h2 k hk.1,hk.2⟩⟩
theorem jS {K:Nat→Prop} {B:Nat} {v:Value} {bs:List Bat} (h:za K B w v bs):∃oa cap,v=.slice oa bs.length cap:=by
 obtain ⟨zs,e,h3,h4⟩:=h;obtain ⟨a,c,h,-⟩:=ze h3;exact ⟨a,c,h⟩
theorem zLi {d:zR} (h:jT w d) (q:Req) (rv kv tv:Value) (Kq:Nat→Prop) (hr:xE Kq w rv q.bat.recs) (hst:zc w) (hen:0≤d.en∧d.en≤1099511627776) (hn:d.n < 100000) (hb:d.bats.length < 100000):
  Calls Tryz.prog 37 #[.pointer (some ⟨d.xb,0,none⟩),.agg (zT q rv kv tv)] w (kp w d q.bat):=by
 obtain ⟨oa,cap,hrv,-⟩:=id hr;subst hrv;have f2:=((Fr.same w).alloc (.cells #[.int .i64 q.kind,.string q.name,.int .i64 q.index,.int .i64 q.count,.int .i64 q.from',.bool q.flag,.int .i64 q.bat.base,.int .i64 q.bat.span,.int .i64 q.bat.prod,.int .i64 q.bat.epoch,.int .i64 q.bat.seq,.slice oa q.bat.recs.length cap,.int .i64 q.fop,.string q.fnm,.string q.fvl,kv,.string q.group,.int .i64 q.member,.int .i64 q.gen,tv] 41)).alloc (.cells #[.int .i64 0,.int .i64 0,.int .i64 0,.int .i64 0,.int .i64 0,.int .i64 0,.int .i64 0,.slice none 0 0,.slice none 0 0,.slice none 0 0] 31);have s1:(w.alloc (.cells #[.int .i64 q.kind,.string q.name,.int .i64 q.index,.int .i64 q.count,.int .i64 q.from',.bool q.flag,.int .i64 q.bat.base,.int .i64 q.bat.span,.int .i64 q.bat.prod,.int .i64 q.bat.epoch,.int .i64 q.bat.seq,.slice oa q.bat.recs.length cap,.int .i64 q.fop,.string q.fnm,.string q.fvl,kv,.string q.group,.int .i64 q.member,.int .i64 q.gen,tv] 41)).heap.size=w.heap.size+1:=by simp
 have s2:((w.alloc (.cells #[.int .i64 q.kind,.string q.name,.int .i64 q.index,.int .i64 q.count,.int .i64 q.from',.bool q.flag,.int .i64 q.bat.base,.int .i64 q.bat.span,.int .i64 q.bat.prod,.int .i64 q.bat.epoch,.int .i64 q.bat.seq,.slice oa q.bat.recs.length cap,.int .i64 q.fop,.string q.fnm,.string q.fvl,kv,.string q.group,.int .i64 q.member,.int .i64 q.gen,tv] 41)).alloc (.cells #[.int .i64 0,.int .i64 0,.int .i64 0,.int .i64 0,.int .i64 0,.int .i64 0,.int .i64 0,.slice none 0 0,.slice none 0 0,.slice none 0 0] 31)).heap.size=w.heap.size+1+1:=by simp
 have f3:=f2.alloc (.cells #[.int .i64 q.bat.base,.int .i64 q.bat.span,.int .i64 q.bat.prod,.int .i64 q.bat.epoch,.int .i64 q.bat.seq,.slice oa q.bat.recs.length cap] 35);have f4:=f2.alloc (.cells #[.int .i64 d.en,.int .i64 q.bat.span,.int .i64 q.bat.prod,.int .i64 q.bat.epoch,.int .i64 q.bat.seq,.slice oa q.bat.recs.length cap] 35);have x1:=zC (w.alloc (.cells #[.int .i64 q.kind,.string q.name,.int .i64 q.index,.int .i64 q.count,.int .i64 q.from',.bool q.flag,.int .i64 q.bat.base,.int .i64 q.bat.span,.int .i64 q.bat.prod,.int .i64 q.bat.epoch,.int .i64 q.bat.seq,.slice oa q.bat.recs.length cap,.int .i64 q.fop,.string q.fnm,.string q.fvl,kv,.string q.group,.int .i64 q.member,.int .i64 q.gen,tv] 41)) (.cells #[.int .i64 0,.int .i64 0,.int .i64 0,.int .i64 0,.int .i64 0,.int .i64 0,.int .i64 0,.slice none 0 0,.slice none 0 0,.slice none 0 0] 31);rw [s1] at x1;have X1:=zz ((zF (.cells #[.int .i64 d.en,.int .i64 q.bat.span,.int .i64 q.bat.prod,.int .i64 q.bat.epoch,.int .i64 q.bat.seq,.slice oa q.bat.recs.length cap] 35) (zA x1)).trans x1);have x2:=zC ((w.alloc (.cells #[.int .i64 q.kind,.string q.name,.int .i64 q.index,.int .i64 q.count,.int .i64 q.from',.bool q.flag,.int .i64 q.bat.base,.int .i64 q.bat.span,.int .i64 q.bat.prod,.int .i64 q.bat.epoch,.int .i64 q.bat.seq,.slice oa q.bat.recs.length cap,.int .i64 q.fop,.string q.fnm,.string q.fvl,kv,.string q.group,.int .i64 q.member,.int .i64 q.gen,tv] 41)).alloc (.cells #[.int .i64 0,.int .i64 0,.int .i64 0,.int .i64 0,.int .i64 0,.int .i64 0,.int .i64 0,.slice none 0 0,.slice none 0 0,.slice none 0 0] 31)) (.cells #[.int .i64 d.en,.int .i64 q.bat.span,.int .i64 q.bat.prod,.int .i64 q.bat.epoch,.int .i64 q.bat.seq,.slice oa q.bat.recs.length cap] 35);rw [s2] at x2;have X2:=zz x2;have dd:=fun j=>zB ((h.old f3).b) j
 have P4:=zz (h.old f4);have R4:=zz (hr.old f4);have S4:=zz (hst.old f4);have F4:=zz f4;have P0:=zz h;have c5:∃T,T=ye (atB d q.bat):=⟨_,rfl⟩;have HEN:=zz hen;clear f2 s1 s2 f3 f4 x1 x2 h hr hst c5 hen;unfold zT;go_enter Tryz.func37,Tryz.ntmps37
 go_wp2_with fail
 generalize (((w.alloc (.cells #[.int .i64 q.kind,.string q.name,.int .i64 q.index,.int .i64 q.count,.int .i64 q.from',.bool q.flag,.int .i64 q.bat.base,.int .i64 q.bat.span,.int .i64 q.bat.prod,.int .i64 q.bat.epoch,.int .i64 q.bat.seq,.slice oa q.bat.recs.length cap,.int .i64 q.fop,.string q.fnm,.string q.fvl,kv,.string q.group,.int .i64 q.member,.int .i64 q.gen,tv] 41)).alloc (.cells #[.int .i64 0,.int .i64 0,.int .i64 0,.int .i64 0,.int .i64 0,.int .i64 0,.int .i64 0,.slice none 0 0,.slice none 0 0,.slice none 0 0] 31)).alloc (.cells #[.int .i64 d.en,.int .i64 q.bat.span,.int .i64 q.bat.prod,.int .i64 q.bat.epoch,.int .i64 q.bat.seq,.slice oa q.bat.recs.length cap] 35))=w4 at *;have EW:=zz (kE Kq (atB d q.bat) (.slice oa q.bat.recs.length cap) w4 R4.out S4.out);unfold yP at EW;dsimp only [atB] at EW;refine EW.out.mono ?_;rintro e w5 ⟨hcase,hf5⟩;have F5:=zz (F4.out.tr hf5);have P5:=zz (P4.out.old hf5);have S5:=zz (S4.out.old hf5);have R5:=zz (R4.out.old hf5);have X1:=zz ((hf5.block _ (zA X1.out) fun h=>h).trans X1.out);have X2:=zz ((hf5.block _ (zA X2.out) fun h=>h).trans X2.out);clear hf5 EW dd P4 S4 F4;rcases hcase with ⟨hok,rfl⟩ | ⟨hok,rfl⟩
 ·have OK:=zz (show xO (atB d q.bat) from hok)
  have hsz:=zCo hok;clear hok;generalize hT:ye _=T at *;have HT:=zz (show ye (atB d q.bat)=T from hT);clear hT;by_cases hl:T.size≤50000
  ·have HL:=zz (show (xO (atB d q.bat)∧(ye (atB d q.bat)).size≤50000) from ⟨OK.out,by rw [HT.out]; exact hl⟩)
   have h5:decide ((50000:Int) < (T.size:Int))=false:=decide_eq_false (by omega);have dp:=fun j=>zB P5.out.b j
   go_wp2_with fail
   have z0:∀y:Lcl.InS (fun w'=>Fr (fun _=>False) w5 w'),y.w.cell? ⟨d.xb,3,none⟩=some (.pointer (some ⟨d.pb,0,none⟩)):=fun y=>y.h.cel ((zB P5.out.b 3).trans rfl)
   have z1:∀y:Lcl.InS (fun w'=>Fr (fun _=>False) w5 w'),y.w.cell? ⟨w.heap.size+1+1,0,none⟩=some (.int .i64 d.en):=fun y=>y.h.cel ((zB X2.out 0).trans rfl)
   have z2:∀y:Lcl.InS (fun w'=>Fr (fun _=>False) w5 w'),y.w.cell? ⟨w.heap.size+1+1,1,none⟩=some (.int .i64 q.bat.span):=fun y=>y.h.cel ((zB X2.out 1).trans rfl)
   have z3:∀y:Lcl.InS (fun w'=>Fr (fun _=>False) w5 w'),y.w.cell? ⟨w.heap.size+1+1,2,none⟩=some (.int .i64 q.bat.prod):=fun y=>y.h.cel ((zB X2.out 2).trans rfl)
   have z4:∀y:Lcl.InS (fun w'=>Fr (fun _=>False) w5 w'),y.w.cell? ⟨w.heap.size+1+1,3,none⟩=some (.int .i64 q.bat.epoch):=fun y=>y.h.cel ((zB X2.out 3).trans rfl)
   have z5:∀y:Lcl.InS (fun w'=>Fr (fun _=>False) w5 w'),y.w.cell? ⟨w.heap.size+1+1,4,none⟩=some (.int .i64 q.bat.seq):=fun y=>y.h.cel ((zB X2.out 4).trans rfl)
   have z6:∀y:Lcl.InS (fun w'=>Fr (fun _=>False) w5 w'),y.w.cell? ⟨w.heap.size+1+1,5,none⟩=some (.slice oa q.bat.recs.length cap):=fun y=>y.h.cel ((zB X2.out 5).trans rfl)
   refine Lcl.wp_region_calm (by kernel_rfl) [(true,[0,1,2]),(false,[3,4])] #[0,1,3,7,0,31,63,127,127,127,255,1535,4095] [0,1,2,3,4] 8 #[true,true,true,true,true,false,false,false,false,false,false,false,false] (by kernel_rfl) (by kernel_rfl) (by kernel_rfl) (fun w'=>Fr (fun _=>False) w5 w') (Fr.same w5).drew (fun d c a v w h=>by cases d <;> exact h) ?_;simp only [Lcl.opsOf,List.map_cons,List.map_nil,List.getElem?_toArray,List.getElem?_cons_succ,List.getElem?_cons_zero,Option.getD_some];refine Lcl.wpCalm_t ?_
   repeat (go_big_quiet_step (rfl))
   refine wpQuiet_nil ?_;refine Lcl.wpCalm_f ?_
   repeat (go_big_quiet_step (rfl))
   refine wpQuiet_nil ?_;refine Lcl.wpCalm_nil ?_;clear z0 z1 z2 z3 z4 z5 z6;have D5:=zz (Fr.same w5).drew;have P6:=zz (P5.out.old D5.out);have S6:=zz (S5.out.old D5.out);have F6:=zz (F5.out.tr D5.out);have X1:=zz ((D5.out.block _ (zA X1.out) fun h=>h).trans X1.out);have X2:=zz ((D5.out.block _ (zA X2.out) fun h=>h).trans X2.out);have R6:=zz (R5.out.old D5.out);clear P5 S5 F5 R5 h5;generalize w5.drew=w6 at *;obtain ⟨x,ag,c,hc⟩:∃x ag c,zLc d.F (atB d q.bat)=(x,ag,c):=⟨_,_,_,rfl⟩;have HC:=zz hc;have CW:=zz (zNe P6.out.prod (atB d q.bat) oa q.bat.recs.length cap);rw [hc] at CW;unfold chkV yP at CW;dsimp only [atB] at CW;clear hc;refine Lcl.wpG_one 5 rfl (by kernel_rfl) ?_;go_wp2_with fail
   refine CW.out.mono ?_;rintro e w7 ⟨rfl,hf7⟩;have P7:=zz (P6.out.old hf7);have S7:=zz (S6.out.old hf7);have F7:=zz (F6.out.tr hf7);have D7:=zz (D5.out.tr hf7);have X1:=zz ((hf7.block _ (zA X1.out) fun h=>h).trans X1.out);have X2:=zz ((hf7.block _ (zA X2.out) fun h=>h).trans X2.out);have R7:=zz (R6.out.old hf7);clear hf7 CW P6 S6 F6 R6 dp;go_wp2_with fail
   refine ⟨fun h=>absurd h (by decide),?_⟩;refine Lcl.wpG_calm (m:=#[0,1,3,7,0,31,63,127,127,127,255,1535,4095]) (needs:=[0,1,2,3,4]) (fuel:=0) (by kernel_rfl) ?hqA (D7.out) [(true,[6,7,8,9,10,11,12])] _ _ ?k1A ?k2A ?k3A ?k4A
   case hqA=>exact fun d c a v w h=>by cases d <;> exact h
   case k1A=>kernel_rfl
   case k2A=>rfl
   case k3A=>kernel_rfl
   simp only [Lcl.opsOf,List.map_cons,List.map_nil,List.getElem?_toArray,List.getElem?_cons_succ,List.getElem?_cons_zero,Option.getD_some];refine Lcl.wpCalm_t ?_
   repeat (go_big_quiet_step (rfl))
   refine wpQuiet_nil ?_;refine Lcl.wpCalm_nil ?_;refine Lcl.wpG_run [] _ _ _ (by kernel_rfl) ?_;simp only [List.map_cons,List.map_nil,List.getElem?_toArray,List.getElem?_cons_succ,List.getElem?_cons_zero,Option.getD_some];have FF:=F7;by_cases h0:c=0
   ·subst h0
    cases ag with
    | true=>
     go_wp2_with fail
     refine (yB x w7).mono ?_;rintro e w8 ⟨rfl,hf8⟩;have X8:=(hf8.block _ (zA X1.out) fun h=>h).trans X1.out;have F9:=zz (zZ (FF.out.trans hf8 fun _ h=>h.elim) (g:=w.heap.size+1) (.inr (by omega)) (zS 0 x 0 0 0 0 0 (.slice none 0 0) (.slice none 0 0) (.slice none 0 0)));have R9:=setRow_heap w8 (w.heap.size+1) _ (zS 0 x 0 0 0 0 0 (.slice none 0 0) (.slice none 0 0) (.slice none 0 0)) 31 (0,0) X8;clear hf8;go_wp2_with (refine zJ rfl _ _ rfl (w.heap.size+1) 0 x rfl rfl _ X8 rfl ?_)
     try simp only [Exit.inBlock,Exit.then]
     refine bodyPost_ret (results_cell_row rfl _ _ (w.heap.size+1) 31 _ (0,0) _ rfl R9 Tryz.underlying31 rfl (by kernel_rfl)) rfl ?_;exact .inr ⟨HL.out,x,true,0,HC.out,.inl ⟨.inr rfl,rfl,F9.out⟩⟩
    | false=>
     go_wp2_with fail
     have HIS:=zz (batIs_of (s:=T) (p:=0) (rest:=[]) OK.out ⟨Nat.zero_le _,by rw [HT.out,List.append_nil]; rfl⟩);have DW:=zz (zQp T 0 (atB d q.bat) OK.out HIS.out w7 (by omega) S7.out);rw [HT.out] at DW;simp only [Nat.zero_add,show ((0:Nat):Int)=0 from rfl] at DW;refine DW.out.mono ?_;rintro e w8 ⟨rv8,rfl,hr8,h18,hf8⟩;obtain ⟨oa8,cap8,rfl,-⟩:=id hr8;have X7lt:=zA X2.out;have P8:=zz (P7.out.old hf8);have F8:=zz (F7.out.tr hf8);have X1:=zz ((hf8.block _ (zA X1.out) fun h=>h).trans X1.out);have X2:=zz ((hf8.block _ (zA X2.out) fun h=>h).trans X2.out);have N8:=zz (hr8.mono (K':=fun i=>w7.heap.size≤i∧i < w8.heap.size) fun i hi hl=>⟨hi,hl⟩);have Z7:=zz (show w.heap.size+1+1 < w7.heap.size∧w7.heap.size≤w8.heap.size from ⟨X7lt,hf8.size⟩);have C8:=zz h18;clear hr8 h18 hf8 DW HIS P7 F7 S7 FF D7 X7lt;unfold yP;dsimp only [atB];have fa:=(Fr.same w8).alloc (.cells #[.int .i64 d.en,.int .i64 q.bat.span,.int .i64 q.bat.prod,.int .i64 q.bat.epoch,.int .i64 q.bat.seq,.slice oa8 q.bat.recs.length cap8] 35);have X9:=zz (zC w8 (.cells #[.int .i64 d.en,.int .i64 q.bat.span,.int .i64 q.bat.prod,.int .i64 q.bat.epoch,.int .i64 q.bat.seq,.slice oa8 q.bat.recs.length cap8] 35));have P9:=zz (P8.out.old fa);have F9:=zz (F8.out.tr fa);have N9:=zz (N8.out.old fa);have X1:=zz ((fa.block _ (zA X1.out) fun h=>h).trans X1.out);have X2:=zz ((fa.block _ (zA X2.out) fun h=>h).trans X2.out);clear fa P8 F8 N8;go_wp2_with fail
     have Z8:=zz (show w8.heap.size < (w8.alloc (.cells #[.int .i64 d.en,.int .i64 q.bat.span,.int .i64 q.bat.prod,.int .i64 q.bat.epoch,.int .i64 q.bat.seq,.slice oa8 q.bat.recs.length cap8] 35)).heap.size from zA X9.out);generalize (w8.alloc (.cells #[.int .i64 d.en,.int .i64 q.bat.span,.int .i64 q.bat.prod,.int .i64 q.bat.epoch,.int .i64 q.bat.seq,.slice oa8 q.bat.recs.length cap8] 35))=w9 at *;obtain ⟨ob,cb,hbv⟩:=jS P9.out.own;have z0:∀y:Lcl.InS (fun w'=>Fr (fun _=>False) w9 w'),y.w.cell? ⟨d.xb,2,none⟩=some (.slice ob d.bats.length cb):=fun y=>y.h.cel ((zB P9.out.b 2).trans (by rw [hbv]; rfl))
     have z1:∀y:Lcl.InS (fun w'=>Fr (fun _=>False) w9 w'),y.w.cell? ⟨w8.heap.size,0,none⟩=some (.int .i64 d.en):=fun y=>y.h.cel ((zB X9.out 0).trans rfl)
     have z2:∀y:Lcl.InS (fun w'=>Fr (fun _=>False) w9 w'),y.w.cell? ⟨w8.heap.size,1,none⟩=some (.int .i64 q.bat.span):=fun y=>y.h.cel ((zB X9.out 1).trans rfl)
     have z3:∀y:Lcl.InS (fun w'=>Fr (fun _=>False) w9 w'),y.w.cell? ⟨w8.heap.size,2,none⟩=some (.int .i64 q.bat.prod):=fun y=>y.h.cel ((zB X9.out 2).trans rfl)
     have z4:∀y:Lcl.InS (fun w'=>Fr (fun _=>False) w9 w'),y.w.cell? ⟨w8.heap.size,3,none⟩=some (.int .i64 q.bat.epoch):=fun y=>y.h.cel ((zB X9.out 3).trans rfl)
     have z5:∀y:Lcl.InS (fun w'=>Fr (fun _=>False) w9 w'),y.w.cell? ⟨w8.heap.size,4,none⟩=some (.int .i64 q.bat.seq):=fun y=>y.h.cel ((zB X9.out 4).trans rfl)
     have z6:∀y:Lcl.InS (fun w'=>Fr (fun _=>False) w9 w'),y.w.cell? ⟨w8.heap.size,5,none⟩=some (.slice oa8 q.bat.recs.length cap8):=fun y=>y.h.cel ((zB X9.out 5).trans rfl)
     have HBV:=zz hbv;clear hbv;refine Lcl.wp_region_calm (by kernel_rfl) [(true,[0,1,2,3]),(false,[4,5])] #[0,0,2,6,14,0,32,126,255,511,1023] [0,1,2,3,4,5,6] 5 #[true,true,true,true,true,true,false,false,false,false,false] (by kernel_rfl) (by kernel_rfl) (by kernel_rfl) (fun w'=>Fr (fun _=>False) w9 w') (Fr.same w9).drew (fun d c a v w h=>by cases d <;> exact h) ?_;simp only [Lcl.opsOf,List.map_cons,List.map_nil,List.getElem?_toArray,List.getElem?_cons_succ,List.getElem?_cons_zero,Option.getD_some];refine Lcl.wpCalm_t ?_
     repeat (go_big_quiet_step (rfl))
     refine wpQuiet_nil ?_;refine Lcl.wpCalm_f ?_
     repeat (go_big_quiet_step (rfl))
     refine wpQuiet_nil ?_;refine Lcl.wpCalm_nil ?_;clear z0 z1 z2 z3 z4 z5 z6;have D9:=zz (Fr.same w9).drew;have P9:=zz (P9.out.old D9.out);have N9:=zz (N9.out.old D9.out);have F9:=zz (F9.out.tr D9.out);have X1:=zz ((D9.out.block _ (zA X1.out) fun h=>h).trans X1.out);have X2:=zz ((D9.out.block _ (zA X2.out) fun h=>h).trans X2.out);have Z9:=zz (show w8.heap.size < w9.drew.heap.size from Z8.out);clear X9 Z8;generalize w9.drew=v9 at *;refine Lcl.wpG_one 6 rfl (by kernel_rfl) ?_;have fa:=(Fr.same v9).alloc (.cells #[.int .i64 d.en,.int .i64 q.bat.span,.int .i64 q.bat.prod,.int .i64 q.bat.epoch,.int .i64 q.bat.seq,.slice oa8 q.bat.recs.length cap8] 35);have XG:=zz (zD v9 #[.int .i64 d.en,.int .i64 q.bat.span,.int .i64 q.bat.prod,.int .i64 q.bat.epoch,.int .i64 q.bat.seq,.slice oa8 q.bat.recs.length cap8] 35);have P10:=zz (P9.out.old fa);have F10:=zz (F9.out.tr fa);have N10:=zz (N9.out.old fa);have D10:=zz (D9.out.tr fa);have X1:=zz ((fa.block _ (zA X1.out) fun h=>h).trans X1.out);have X2:=zz ((fa.block _ (zA X2.out) fun h=>h).trans X2.out);have Z10:=zz (show v9.heap.size < (v9.alloc (.cells #[.int .i64 d.en,.int .i64 q.bat.span,.int .i64 q.bat.prod,.int .i64 q.bat.epoch,.int .i64 q.bat.seq,.slice oa8 q.bat.recs.length cap8] 35)).heap.size by simp);clear fa P9 F9 N9 D9;go_wp2_with fail
     refine ⟨fun _ _=>D10.out,?_⟩;generalize (v9.alloc (.cells #[.int .i64 d.en,.int .i64 q.bat.span,.int .i64 q.bat.prod,.int .i64 q.bat.epoch,.int .i64 q.bat.seq,.slice oa8 q.bat.recs.length cap8] 35))=w10 at *;refine Lcl.wpG_run [7,8,9,10] _ _ _ (by kernel_rfl) ?_;simp only [List.map_cons,List.map_nil,List.getElem?_toArray,List.getElem?_cons_succ,List.getElem?_cons_zero,Option.getD_some];have OB:=zz (zWg (K':=fun i=>d.K i∨(w7.heap.size≤i∧i < w8.heap.size)) P10.out.own fun k hk=>.inl hk);have NB:=zz (N10.out.mono (K':=fun i=>(d.K i∨(w7.heap.size≤i∧i < w8.heap.size))∧d.bv.ownBlock≠some i) fun i hi _=>⟨.inr hi,fun e=>by have:=(P0.out.lt i (.inr (.inl e))).2; have:=Z7.out.1; omega⟩);refine jO w10 rfl (.tmp 61) (.tmp 63) rfl (fun i=>d.K i∨(w7.heap.size≤i∧i < w8.heap.size)) 1 d.bv d.bats HBV.out.symm OB.out v9.heap.size 1 rfl (atB d q.bat) (.slice oa8 q.bat.recs.length cap8) (fun j=>XG.out j) NB.out rfl (by omega) (by have:=Z10.out; omega) ?_;intro v11 w11 ho11 hg11 hb11;obtain ⟨o11,c11,hv11⟩:=jS ho11;rw [List.length_append,List.length_cons,List.length_nil,Nat.zero_add] at hv11;subst hv11;have hf11:Fr (fun i=>d.bv.ownBlock=some i) w10 w11:=Fr.grown (Fr.refl _ _) hg11 fun k e=>.inl e
     have XB:=(hf11.block _ (zA P10.out.b) P10.out.x1).trans P10.out.b;have PR:=zz (P10.out.prod.fr hf11 fun i hi e=>P10.out.s1 _ e hi);have F11:=zz ((F10.out.mono (S':=d.T) fun _ h=>h.elim).trans hf11 fun i e=>.inl (.inr (.inl e)));have LT:=zz (show ∀i,d.T i→i < w.heap.size from fun i hi=>(P0.out.lt i hi).2);have X1:=zz ((hf11.block _ (zA X1.out) (fun e=>by have:=LT.out _ (.inr (.inl e)); omega)).trans X1.out);have X2:=zz ((hf11.block _ (zA X2.out) (fun e=>by have:=LT.out _ (.inr (.inl e)); omega)).trans X2.out);have dd:=fun j=>zB XB j
     have fz:=fun j=>zd XB j
     have hf12:Fr (fun i=>i=d.xb) w11 (w11.setCell ⟨d.xb,2,none⟩ (.slice o11 (d.bats.length+1) c11)):=(Fr.refl (fun i=>i=d.xb) w11).setCell (p:=⟨d.xb,2,none⟩) (.inl rfl) _;have X12:=zz (show (w11.setCell ⟨d.xb,2,none⟩ (.slice o11 (d.bats.length+1) c11)).heap[d.xb]?=some (.cells #[.int .i64 d.st,.int .i64 d.en,.slice o11 (d.bats.length+1) c11,.pointer (some ⟨d.pb,0,none⟩)] 102 (0,0)) from (zE XB _).trans rfl);have PR12:=zz (PR.out.fr hf12 fun i hi e=>P0.out.x3 (e ▸ hi));have F12:=zz (F11.out.trans hf12 fun i e=>.inl (.inl e));have G12:=zz (hf12.mono (S':=fun i=>i=d.xb∨d.S i) fun i e=>.inl (.inl e));have X1:=zz ((hf12.block _ (zA X1.out) (fun e=>by have:=LT.out _ (.inl rfl); omega)).trans X1.out);have X2:=zz ((hf12.block _ (zA X2.out) (fun e=>by have:=LT.out _ (.inl rfl); omega)).trans X2.out);have O11:=zz ho11;have B11:=zz hb11;have Z11:=zz (show w10.heap.size≤w11.heap.size∧w11.heap.size≤(w11.setCell ⟨d.xb,2,none⟩ (.slice o11 (d.bats.length+1) c11)).heap.size from ⟨hf11.size,hf12.size⟩);have G11:=zz hg11;clear ho11 hg11 hb11 hf11 XB PR F11 hf12;go_wp2_with fail
     generalize (w11.setCell ⟨d.xb,2,none⟩ (.slice o11 (d.bats.length+1) c11))=w12 at *;clear dd fz;have z0:∀y:Lcl.InS (fun w'=>Fr (fun _=>False) w12 w'),y.w.cell? ⟨d.xb,3,none⟩=some (.pointer (some ⟨d.pb,0,none⟩)):=fun y=>y.h.cel ((zB X12.out 3).trans rfl)
     have z1:∀y:Lcl.InS (fun w'=>Fr (fun _=>False) w12 w'),y.w.cell? ⟨w.heap.size+1+1,0,none⟩=some (.int .i64 d.en):=fun y=>y.h.cel ((zB X2.out 0).trans rfl)
     have z2:∀y:Lcl.InS (fun w'=>Fr (fun _=>False) w12 w'),y.w.cell? ⟨w.heap.size+1+1,1,none⟩=some (.int .i64 q.bat.span):=fun y=>y.h.cel ((zB X2.out 1).trans rfl)
     have z3:∀y:Lcl.InS (fun w'=>Fr (fun _=>False) w12 w'),y.w.cell? ⟨w.heap.size+1+1,2,none⟩=some (.int .i64 q.bat.prod):=fun y=>y.h.cel ((zB X2.out 2).trans rfl)
     have z4:∀y:Lcl.InS (fun w'=>Fr (fun _=>False) w12 w'),y.w.cell? ⟨w.heap.size+1+1,3,none⟩=some (.int .i64 q.bat.epoch):=fun y=>y.h.cel ((zB X2.out 3).trans rfl)
     have z5:∀y:Lcl.InS (fun w'=>Fr (fun _=>False) w12 w'),y.w.cell? ⟨w.heap.size+1+1,4,none⟩=some (.int .i64 q.bat.seq):=fun y=>y.h.cel ((zB X2.out 4).trans rfl)
     have z6:∀y:Lcl.InS (fun w'=>Fr (fun _=>False) w12 w'),y.w.cell? ⟨w.heap.size+1+1,5,none⟩=some (.slice oa q.bat.recs.length cap):=fun y=>y.h.cel ((zB X2.out 5).trans rfl)
     refine Lcl.wp_region_calm (by kernel_rfl) [(true,[0,1,2]),(false,[3,4])] #[0,1,3,7,0,31] [0,1,2,3,4] 1 #[true,true,true,true,true,false] (by kernel_rfl) (by kernel_rfl) (by kernel_rfl) (fun w'=>Fr (fun _=>False) w12 w') (Fr.same w12).drew (fun d c a v w h=>by cases d <;> exact h) ?_;simp only [Lcl.opsOf,List.map_cons,List.map_nil,List.getElem?_toArray,List.getElem?_cons_succ,List.getElem?_cons_zero,Option.getD_some];refine Lcl.wpCalm_t ?_
     repeat (go_big_quiet_step (rfl))
     refine wpQuiet_nil ?_;refine Lcl.wpCalm_f ?_
     repeat (go_big_quiet_step (rfl))
     refine wpQuiet_nil ?_;refine Lcl.wpCalm_nil ?_;clear z0 z1 z2 z3 z4 z5 z6;have D12:=zz (Fr.same w12).drew;have PR13:=zz (PR12.out.old D12.out);have F13:=zz (F12.out.trans D12.out fun _ h=>h.elim);have G13:=zz (G12.out.trans D12.out fun _ h=>h.elim);have X1:=zz ((D12.out.block _ (zA X1.out) fun h=>h).trans X1.out);have X2:=zz ((D12.out.block _ (zA X2.out) fun h=>h).trans X2.out);have X12:=zz ((D12.out.block _ (zA X12.out) fun h=>h).trans X12.out);have Z12:=zz (show w11.heap.size≤w12.drew.heap.size from Z11.out.2);clear PR12 F12 G12 D12;generalize w12.drew=w13 at *;have NW:=zz (zQj PR13.out hn (atB d q.bat) oa q.bat.recs.length cap);unfold yP at NW;dsimp only [atB] at NW;refine Lcl.wpG_run [5] _ _ _ (by kernel_rfl) ?_;simp only [List.map_cons,List.map_nil,List.getElem?_toArray,List.getElem?_cons_succ,List.getElem?_cons_zero,Option.getD_some];go_wp2_with fail
     refine NW.out.mono ?_;rintro e w14 ⟨rfl,hpw,hf14⟩;have PW:=zz hpw.cut;have F14:=zz (F13.out.trans hf14 fun i hi=>.inl (.inr (.inr (.inr hi))));have G14:=zz (G13.out.trans hf14 fun i hi=>.inl (.inr hi));have X1:=zz ((hf14.block _ (zA X1.out) (fun e=>by have:=LT.out _ (.inr (.inr (.inr e))); omega)).trans X1.out);have X2:=zz ((hf14.block _ (zA X2.out) (fun e=>by have:=LT.out _ (.inr (.inr (.inr e))); omega)).trans X2.out);have X12:=zz ((hf14.block _ (zA X12.out) P0.out.x3).trans X12.out);have Z14:=zz hf14.size;clear hpw hf14 NW PR13 F13 G13;go_wp2_with fail
     have z0:∀y:Lcl.InS (fun w'=>Fr (fun _=>False) w14 w'),y.w.cell? ⟨d.xb,1,none⟩=some (.int .i64 d.en):=fun y=>y.h.cel ((zB X12.out 1).trans rfl)
     have z1:∀y:Lcl.InS (fun w'=>Fr (fun _=>False) w14 w'),y.w.cell? ⟨w.heap.size+1+1,1,none⟩=some (.int .i64 q.bat.span):=fun y=>y.h.cel ((zB X2.out 1).trans rfl)
     have hsp:=OK.out.span0;have hsp1:=OK.out.span1;have hen:=HEN.out;dsimp only [atB] at hsp hsp1;refine Lcl.wp_region_calm (by kernel_rfl) [(true,[0,1,2,4]),(false,[3,5]),(true,[6,7,8])] #[0,1,3,7,0,16,63,127,255,511] [0,1,2,3,4,5] 1 #[true,true,true,true,true,true,true,true,true,false] (by kernel_rfl) (by kernel_rfl) (by kernel_rfl) (fun w'=>Fr (fun _=>False) w14 w') (Fr.same w14).drew (fun d c a v w h=>by cases d <;> exact h) ?_;simp only [Lcl.opsOf,List.map_cons,List.map_nil,List.getElem?_toArray,List.getElem?_cons_succ,List.getElem?_cons_zero,Option.getD_some];refine Lcl.wpCalm_t ?_
     repeat (go_big_quiet_step (rfl))
     refine wpQuiet_nil ?_;refine Lcl.wpCalm_f ?_
     repeat (go_big_quiet_step (rfl))
     refine wpQuiet_nil ?_;refine Lcl.wpCalm_t ?_
     repeat (go_big_quiet_step (rfl))
     refine wpQuiet_nil ?_;refine Lcl.wpCalm_nil ?_;clear z0 z1;have D14:=zz (Fr.same w14).drew;have PW15:=zz (PW.out.old D14.out);have F15:=zz (F14.out.trans D14.out fun _ h=>h.elim);have G15:=zz (G14.out.trans D14.out fun _ h=>h.elim);have X1:=zz ((D14.out.block _ (zA X1.out) fun h=>h).trans X1.out);have X2:=zz ((D14.out.block _ (zA X2.out) fun h=>h).trans X2.out);have X12:=zz ((D14.out.block _ (zA X12.out) fun h=>h).trans X12.out);have Z15:=zz (show w14.heap.size≤w14.drew.heap.size from Nat.le_refl _);clear PW F14 G14 D14;generalize w14.drew=w15 at *;refine Lcl.wpG_run [9] _ _ _ (by kernel_rfl) ?_;simp only [List.map_cons,List.map_nil,List.getElem?_toArray,List.getElem?_cons_succ,List.getElem?_cons_zero,Option.getD_some];have dd:=fun j=>zB X12.out j
     have fz:=fun j=>zd X12.out j
     have hf16:Fr (fun i=>i=d.xb) w15 (w15.setCell ⟨d.xb,1,none⟩ (.int .i64 (d.en+q.bat.span))):=(Fr.refl (fun i=>i=d.xb) w15).setCell (p:=⟨d.xb,1,none⟩) (.inl rfl) _;have X16:=zz ((zE X12.out (o:=1) (.int .i64 (d.en+q.bat.span))).trans (show _=some (.cells #[.int .i64 d.st,.int .i64 (d.en+q.bat.span),.slice o11 (d.bats.length+1) c11,.pointer (some ⟨d.pb,0,none⟩)] 102 (0,0)) from rfl));have PW16:=zz (PW15.out.fr hf16 fun i hi e=>by rcases hi.1 with h | h <;> first | exact P0.out.x3 (e ▸ h) | (have:=LT.out _ (.inl rfl); have:=Z12.out; have:=Z11.out.1; have:=Z10.out; have:=Z9.out; have:=Z7.out; omega));have F16:=zz (F15.out.trans hf16 fun i e=>.inl (.inl e));have G16:=zz (G15.out.trans hf16 fun i e=>.inl (.inl e));have X1:=zz ((hf16.block _ (zA X1.out) (fun e=>by have:=LT.out _ (.inl rfl); omega)).trans X1.out);have X2:=zz ((hf16.block _ (zA X2.out) (fun e=>by have:=LT.out _ (.inl rfl); omega)).trans X2.out);have Z16:=zz hf16.size;have dz:=zB X2.out 0;clear hf16 PW15 F15 G15 hsp hsp1;go_wp2_with fail
     generalize (w15.setCell ⟨d.xb,1,none⟩ (.int .i64 (d.en+q.bat.span)))=w16 at *;clear dd fz dz hen;have z1:=Z7.out;have z2:=Z9.out;have z3:=Z10.out;have z4:=Z11.out;have z5:=Z12.out;have z6:=Z14.out;have z7:=Z15.out;have z8:=Z16.out;have ltS:∀i,d.T i→0 < i∧i < w.heap.size:=P0.out.lt;have P16:=zz (show jT w16 ⟨d.xb,d.st,d.en+q.bat.span,d.bats++ [atB d q.bat],.slice o11 (d.bats.length+1) c11,d.pb,vh d.F (atB d q.bat),d.n+1,fun i=>d.K i∨(w7.heap.size≤i∧i < w8.heap.size),fun i=>(d.S i∨w13.heap.size≤i)∧i < w14.heap.size⟩ from by
      have hown:∀k,(Value.slice o11 (d.bats.length+1) c11).ownBlock=some k→(d.bv.ownBlock=some k∨k=w10.heap.size):=fun k hk=>by
       rcases B11.out with h | h
       ·exact .inl (h ▸ hk)
       ·exact .inr (Option.some.inj (hk.symm.trans h))
      refine ⟨X16.out,?_,PW16.out,?_,?_,?_,?_,?_,?_⟩
      ·refine vJ O11.out G16.out ?_ ?_
       ·intro k hk
        rintro (e | hs)
        ·rcases hown k hk with h | h
         ·exact P0.out.x1 (h.trans (congrArg some e))
         ·have:=(ltS _ (.inl rfl)).2; omega
        ·rcases hown k hk with h | h
         ·exact P0.out.s1 k h hs
         ·have:=(ltS _ (.inr (.inr (.inr hs)))).2; omega
       ·intro k hk
        rintro (e | hs)
        ·rcases hk with h | h
         ·exact P0.out.x2 (e ▸ h)
         ·have:=(ltS _ (.inl rfl)).2; omega
        ·rcases hk with h | h
         ·exact P0.out.s2 k h hs
         ·have:=(ltS _ (.inr (.inr (.inr hs)))).2; omega
      ·rintro i (h | h | h | h)
       ·have:=ltS _ (.inl rfl); have h:i=d.xb:=h; subst h; omega
       ·rcases hown i h with h | h
        ·have:=ltS _ (.inr (.inl h)); omega
        ·have:=(zK O11.out.choose_spec.2.1 (k:=i) (by rw [h]; rcases B11.out with h2 | h2 <;> first | exact h2 | (exfalso; have h3:(Value.slice o11 (d.bats.length+1) c11).ownBlock=some i:=‹_›; have:=(ltS _ (.inr (.inl (h2 ▸ h3)))).2; omega))).2
         omega
       ·rcases h with h | h
        ·have:=ltS _ (.inr (.inr (.inl h))); omega
        ·omega
       ·rcases h with ⟨h,h2⟩
        rcases h with h | h
        ·have:=ltS _ (.inr (.inr (.inr h))); omega
        ·omega
      ·intro e
       rcases hown _ e with h | h
       ·exact P0.out.x1 h
       ·have:=(ltS _ (.inl rfl)).2; have h:d.xb=w10.heap.size:=h; omega
      ·rintro (h | h)
       ·exact P0.out.x2 h
       ·have:=(ltS _ (.inl rfl)).2; have h:w7.heap.size≤d.xb∧d.xb < w8.heap.size:=h; omega
      ·rintro ⟨h,h2⟩
       rcases h with h | h
       ·exact P0.out.x3 h
       ·have:=(ltS _ (.inl rfl)).2; have h:w13.heap.size≤d.xb:=h; omega
      ·intro k hk
       rintro ⟨h,h2⟩;have hk2:=(zK O11.out.choose_spec.2.1 hk).2;rcases hown k hk with h3 | h3
       ·rcases h with h | h
        ·exact P0.out.s1 k h3 h
        ·have:=(ltS _ (.inr (.inl h3))).2; omega
       ·rcases h with h | h
        ·have:=(ltS _ (.inr (.inr (.inr h)))).2; omega
        ·omega
      ·intro k hk
       rintro ⟨h,h2⟩;rcases hk with h3 | h3
       ·rcases h with h | h
        ·exact P0.out.s2 k h3 h
        ·have:=(ltS _ (.inr (.inr (.inl h3)))).2; omega
       ·rcases h with h | h
        ·have:=(ltS _ (.inr (.inr (.inr h)))).2; omega
        ·omega)
     have TT:=zz (show ∀i,(⟨d.xb,d.st,d.en+q.bat.span,d.bats++ [atB d q.bat],.slice o11 (d.bats.length+1) c11,d.pb,vh d.F (atB d q.bat),d.n+1,fun i=>d.K i∨(w7.heap.size≤i∧i < w8.heap.size),fun i=>(d.S i∨w13.heap.size≤i)∧i < w14.heap.size⟩:zR).T i→d.T i∨w.heap.size+1+1 < i from by
      rintro i (h | h | h | h)
      ·exact .inl (.inl h)
      ·rcases B11.out with h2 | h2
       ·exact .inl (.inr (.inl (h2 ▸ h)))
       ·have:i=w10.heap.size:=Option.some.inj (h.symm.trans h2); exact .inr (by omega)
      ·rcases h with h | h
       ·exact .inl (.inr (.inr (.inl h)))
       ·exact .inr (by omega)
      ·rcases h with ⟨h,h2⟩
       rcases h with h | h
       ·exact .inl (.inr (.inr (.inr h)))
       ·exact .inr (by omega))
     have RB:=zz (show ∀i,d.T i→i≠w.heap.size+1 from fun i hi e=>by have:=(ltS i hi).2; omega);clear z1 z2 z3 z4 z5 z6 z7 z8 ltS;refine (yB d.en w16).mono ?_;rintro e w18 ⟨rfl,hf18⟩;have X18:=(hf18.block _ (zA X1.out) fun h=>h).trans X1.out;have F19:=zz (zZ (F16.out.trans hf18 fun _ h=>h.elim) (g:=w.heap.size+1) (.inr (by omega)) (zS 0 d.en 0 0 0 0 0 (.slice none 0 0) (.slice none 0 0) (.slice none 0 0)));have P19:=zz ((P16.out.old hf18).fr (zZ (S:=fun i=>i=w.heap.size+1) (Fr.refl _ w18) (.inl rfl) (zS 0 d.en 0 0 0 0 0 (.slice none 0 0) (.slice none 0 0) (.slice none 0 0))) fun i hi e=>by rcases TT.out i hi with h | h <;> first | exact RB.out i h e | omega);have R19:=setRow_heap w18 (w.heap.size+1) _ (zS 0 d.en 0 0 0 0 0 (.slice none 0 0) (.slice none 0 0) (.slice none 0 0)) 31 (0,0) X18;clear hf18;go_wp2_with (refine zJ rfl _ _ rfl (w.heap.size+1) 0 d.en rfl rfl _ X18 rfl ?_)
     try simp only [Exit.inBlock,Exit.then]
     refine bodyPost_ret (results_cell_row rfl _ _ (w.heap.size+1) 31 _ (0,0) _ rfl R19 Tryz.underlying31 rfl (by kernel_rfl)) rfl ?_;exact .inr ⟨HL.out,x,false,0,HC.out,.inr ⟨rfl,rfl,rfl,_,P19.out,rfl,rfl,rfl,rfl,rfl,rfl,fun i hi=>(TT.out i hi).imp id fun h=>by omega,F19.out⟩⟩
   ·have H0:=zz h0
    have HV:=zz (show (if c=0 then xC 0 x else xC c 0)=xC c 0 from if_neg h0);go_wp2_with fail
    refine (yh x c h0 w7).mono ?_;rintro e w8 ⟨rfl,hf8⟩;have X8:=(hf8.block _ (zA X1.out) fun h=>h).trans X1.out;have F9:=zz (zZ (FF.out.trans hf8 fun _ h=>h.elim) (g:=w.heap.size+1) (.inr (by omega)) (zS c 0 0 0 0 0 0 (.slice none 0 0) (.slice none 0 0) (.slice none 0 0)));have R9:=setRow_heap w8 (w.heap.size+1) _ (zS c 0 0 0 0 0 0 (.slice none 0 0) (.slice none 0 0) (.slice none 0 0)) 31 (0,0) X8;clear hf8;go_wp2_with (refine zJ rfl _ _ rfl (w.heap.size+1) c 0 rfl rfl _ X8 rfl ?_)
    try simp only [Exit.inBlock,Exit.then]
    refine bodyPost_ret (results_cell_row rfl _ _ (w.heap.size+1) 31 _ (0,0) _ rfl R9 Tryz.underlying31 rfl (by kernel_rfl)) rfl ?_;exact .inr ⟨HL.out,x,ag,c,HC.out,.inl ⟨.inl H0.out,congrArg Ending.returned HV.out.symm,F9.out⟩⟩
  ·have h5:decide ((50000:Int) < (T.size:Int))=true:=decide_eq_true (by omega)
   have h6:(50000:Int) < (T.size:Int):=by omega
   have POST:=zz (show ¬(xO (atB d q.bat)∧(ye (atB d q.bat)).size≤50000) from fun h=>hl (by rw [←HT.out]; exact h.2));clear hl;have FF:=F5;go_wp2_with fail
   refine (yh 0 1 (by decide) w5).mono ?_;rintro e w8 ⟨rfl,hf8⟩;have X8:=(hf8.block _ (zA X1.out) fun h=>h).trans X1.out;have F9:=zz (zZ (FF.out.trans hf8 fun _ h=>h.elim) (g:=w.heap.size+1) (.inr (by omega)) (zS 1 0 0 0 0 0 0 (.slice none 0 0) (.slice none 0 0) (.slice none 0 0)));have R9:=setRow_heap w8 (w.heap.size+1) _ (zS 1 0 0 0 0 0 0 (.slice none 0 0) (.slice none 0 0) (.slice none 0 0)) 31 (0,0) X8;clear hf8;go_wp2_with (refine zJ rfl _ _ rfl (w.heap.size+1) 1 0 rfl rfl _ X8 rfl ?_)
   try simp only [Exit.inBlock,Exit.then]
   refine bodyPost_ret (results_cell_row rfl _ _ (w.heap.size+1) 31 _ (0,0) _ rfl R9 Tryz.underlying31 rfl (by kernel_rfl)) rfl ?_;exact .inl ⟨POST.out,rfl,F9.out⟩
 ·have POST:=zz (show ¬(xO (atB d q.bat)∧(ye (atB d q.bat)).size≤50000) from fun h=>hok h.1)
  clear hok;have FF:=F5;go_wp2_with fail
  refine (yh 0 1 (by decide) w5).mono ?_;rintro e w8 ⟨rfl,hf8⟩;have X8:=(hf8.block _ (zA X1.out) fun h=>h).trans X1.out;have F9:=zz (zZ (FF.out.trans hf8 fun _ h=>h.elim) (g:=w.heap.size+1) (.inr (by omega)) (zS 1 0 0 0 0 0 0 (.slice none 0 0) (.slice none 0 0) (.slice none 0 0)));have R9:=setRow_heap w8 (w.heap.size+1) _ (zS 1 0 0 0 0 0 0 (.slice none 0 0) (.slice none 0 0) (.slice none 0 0)) 31 (0,0) X8;clear hf8;go_wp2_with (refine zJ rfl _ _ rfl (w.heap.size+1) 1 0 rfl rfl _ X8 rfl ?_)
  try simp only [Exit.inBlock,Exit.then]
  refine bodyPost_ret (results_cell_row rfl _ _ (w.heap.size+1) 31 _ (0,0) _ rfl R9 Tryz.underlying31 rfl (by kernel_rfl)) rfl ?_;exact .inl ⟨POST.out,rfl,F9.out⟩
end
end Go.Proofs.YtfdhofabgdkkkaaGreatDoor

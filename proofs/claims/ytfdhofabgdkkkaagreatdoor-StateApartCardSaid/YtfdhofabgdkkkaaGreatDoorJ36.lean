/- A part of the proof that what the machine is told keeps its bounds. -/
import Derived.Test.YtfdhofabgdkkkaaGreatDoorJ35
import Derived.Test.YtfdhofabgdkkkaaGreatDoorJ30
set_option maxHeartbeats 128000000
set_option maxRecDepth 100000
namespace Go.Proofs.YtfdhofabgdkkkaaGreatDoor
open Lib renaming hid→zz
open Go.RowKit Go.Fm Go.BigFrame Go.Shelf Go.Maps
set_option linter.unusedVariables false
set_option linter.unusedSimpArgs false
section
variable {w w':World} {S K:Nat→Prop}
def zX (c:zO) (N:Nat) (w w':World) (c':zO):Prop:=xd w' c' (N+2)∧c'.cb=c.cb∧(∀i,c'.T i→c.T i∨w.heap.size≤i)∧Fr c.T w w'
theorem zX.same {c:zO} {N:Nat} (h:xd w c N) (hf:Fr (fun _=>False) w w'):zX c N w w' c:=⟨(h.old hf).more (by omega),rfl,fun i h=>.inl h,hf.mono fun _ h=>h.elim⟩
theorem zX.turn {c:zO} {N:Nat} (h:xd w c N) {k:ByteArray} {d d':zj} (hd:yD c.G k=some d) (ht:zDg d d' w w') (hi:yL d'.F (N+2)∧GQ d'.F∧d'.F.se=c.se∧d'.F.re=c.re):zX c N w w' { c with G:=zAf c.G k d' } :=by
 have hm:=xh hd;refine ⟨h.set hm ht.1 ht.2.1 ht.2.2.1 ht.2.2.2 (by omega) hi,rfl,fun i hi=>?_,ht.2.2.2.mono fun i hi=>.inl (.inr ⟨_,hm,hi⟩)⟩;rcases hi with hi | ⟨x,hx,hi⟩
 ·exact .inl (.inl hi)
 ·obtain ⟨y,hy,rfl⟩:=List.mem_map.1 hx
  by_cases e:y.1=k
  ·rw [if_pos e] at hi
   exact (ht.2.2.1 i hi).imp (fun h=>.inr ⟨_,hm,h⟩) id
  ·rw [if_neg e] at hi
   exact .inl (.inr ⟨y,hy,hi⟩)
theorem zX.late {c c':zO} {N:Nat} {w0:World} (h:zX c N w w' c') (hf:Fr (fun _=>False) w0 w):zX c N w0 w' c':=⟨h.1,h.2.1,fun i hi=>(h.2.2.1 i hi).imp id fun h=>Nat.le_trans hf.size h,(hf.mono (S':=c.T) fun _ h=>h.elim).trans h.2.2.2 fun i hi=>.inl hi⟩
theorem zX.more {c c':zO} {N:Nat} {w9:World} (h:zX c N w w' c') (hf:Fr (fun _=>False) w' w9):zX c N w w9 c':=⟨h.1.old hf,h.2.1,h.2.2.1,zKi h.2.2.2 hf⟩
def OpR (R:zf→Int→zf→Prop) (c:zO) (k:ByteArray) (er:Int) (c':zO):Prop:=(yD c.G k=none∧er=11∧c'=c)∨∃d d',yD c.G k=some d∧c'= { c with G:=zAf c.G k d' } ∧R d.F er d'.F
def OpPost (R:zf→Int→zf→Prop) (c:zO) (N:Nat) (k:ByteArray) (w:World) (e:Ending) (w':World):Prop:=∃(er:Int) (c':zO),e=.returned (.int .i64 er)∧zX c N w w' c'∧OpR R c k er c'
theorem zRv {c:zO} {N:Nat} (h:xd w c N) (hN:N≤900000) (k:ByteArray) (hk:k.size≤maxLen) (m gen now:Int) (hm:-1≤m∧m≤2199023255552):
  Calls Tryz.prog 82 #[.pointer (some ⟨c.cb,0,none⟩),.string k,.int .i64 m,.int .i64 gen,.int .i64 now] w (OpPost (fun f er f'=>zUe f m gen now er f') c N k w):=by
 have GW:=zz (kP h k hk);have H:=zz h;clear h;cases hf:yD c.G k with
 | none=>
  rw [hf] at GW;dsimp only [zDf,Option.isSome_none] at GW;have HF:=zz hf;clear hf;go_enter Tryz.func82,Tryz.ntmps82
  go_wp2_with fail
  refine GW.out.mono ?_;rintro e w1 ⟨rfl,f1⟩;have F1:=zz f1;clear f1 GW;go_wp2_with fail
  go_ret
  exact ⟨11,c,rfl,.same H.out F1.out,.inl ⟨HF.out,rfl,rfl⟩⟩
 | some d=>
  rw [hf] at GW;dsimp only [zDf,vr,Option.isSome_some] at GW;have HF:=zz hf;have HI:=zz (H.out.inv _ (xh hf));clear hf;go_enter Tryz.func82,Tryz.ntmps82
  go_wp2_with fail
  refine GW.out.mono ?_;rintro e w1 ⟨rfl,f1⟩;have H1:=zz (H.out.old f1);have G1:=zz (H1.out.grp _ (xh HF.out));have F1:=zz f1;have BW:=zz (zXf G1.out HI.out.1 (by omega) m gen now hm);dsimp only at BW;clear f1 GW;go_wp2_with fail
  refine BW.out.mono ?_;rintro e w2 hb;obtain ⟨er,d',rfl,ht,hr⟩:=zYc G1.out hb;have iv:=beat_inv HI.out.1 HI.out.2.1 hr;have ST:=zz ((zX.turn H1.out HF.out ht ⟨iv.1.mono (by omega),iv.2.1,iv.2.2.1.trans HI.out.2.2.1,iv.2.2.2.trans HI.out.2.2.2⟩).late F1.out);have HR:=zz hr;clear hb ht hr iv BW;go_wp2_with fail
  go_ret
  exact ⟨er,_,rfl,ST.out,.inr ⟨d,d',HF.out,rfl,HR.out⟩⟩
theorem zOw {c:zO} {N:Nat} (h:xd w c N) (hN:N≤900000) (k:ByteArray) (hk:k.size≤maxLen) (m now:Int) (hm:-1≤m∧m≤2199023255552):
  Calls Tryz.prog 83 #[.pointer (some ⟨c.cb,0,none⟩),.string k,.int .i64 m,.int .i64 now] w (OpPost (fun f er f'=>zLx f m now er f') c N k w):=by
 have GW:=zz (kP h k hk);have H:=zz h;clear h;cases hf:yD c.G k with
 | none=>
  rw [hf] at GW;dsimp only [zDf,Option.isSome_none] at GW;have HF:=zz hf;clear hf;go_enter Tryz.func83,Tryz.ntmps83
  go_wp2_with fail
  refine GW.out.mono ?_;rintro e w1 ⟨rfl,f1⟩;have F1:=zz f1;clear f1 GW;go_wp2_with fail
  go_ret
  exact ⟨11,c,rfl,.same H.out F1.out,.inl ⟨HF.out,rfl,rfl⟩⟩
 | some d=>
  rw [hf] at GW;dsimp only [zDf,vr,Option.isSome_some] at GW;have HF:=zz hf;have HI:=zz (H.out.inv _ (xh hf));clear hf;go_enter Tryz.func83,Tryz.ntmps83
  go_wp2_with fail
  refine GW.out.mono ?_;rintro e w1 ⟨rfl,f1⟩;have H1:=zz (H.out.old f1);have G1:=zz (H1.out.grp _ (xh HF.out));have F1:=zz f1;have BW:=zz (zRf G1.out HI.out.1 (by omega) m now hm);dsimp only at BW;clear f1 GW;go_wp2_with fail
  refine BW.out.mono ?_;rintro e w2 hb;obtain ⟨er,d',rfl,ht,hr⟩:=zRu G1.out hb;have iv:=zYd HI.out.1 HI.out.2.1 hr;have ST:=zz ((zX.turn H1.out HF.out ht ⟨iv.1.mono (by omega),iv.2.1,iv.2.2.1.trans HI.out.2.2.1,iv.2.2.2.trans HI.out.2.2.2⟩).late F1.out);have HR:=zz hr;clear hb ht hr iv BW;go_wp2_with fail
  go_ret
  exact ⟨er,_,rfl,ST.out,.inr ⟨d,d',HF.out,rfl,HR.out⟩⟩
def zYe (c:zO) (N:Nat) (k:ByteArray) (m gen now:Int) (rnd:Bool) (tops:List (ByteArray × Int)) (w:World) (e:Ending) (w':World):Prop:=
 ∃(rv:Value) (er:Int) (c':zO) (pl:List (ByteArray × Int)),e=.returned (.tuple #[rv,.int .i64 er])∧xL (fun b=>w.heap.size≤b) w' rv pl∧zX c N w w' c'∧((yD c.G k=none∧er=11∧c'=c∧pl=[])∨∃d d',yD c.G k=some d∧c'= { c with G:=zAf c.G k d' } ∧zHl d.F m gen now rnd tops er d'.F pl)
theorem zRw {c:zO} {N:Nat} (h:xd w c N) (hN:N≤900000) (k:ByteArray) (hk:k.size≤maxLen) (m gen now:Int) (hm:-1≤m∧m≤2199023255552) (tops:List (ByteArray × Int)) (tv:Value) (ht:∀w',Fr c.T w w'→jq w' tv tops) (h2:tops.length≤1000) (htz:∀t∈tops,t.1.size≤150000000000000) (rnd:Bool):
  Calls Tryz.prog 81 #[.pointer (some ⟨c.cb,0,none⟩),.string k,.int .i64 m,.int .i64 gen,tv,.bool rnd,.int .i64 now] w (zYe c N k m gen now rnd tops w):=by
 have GW:=zz (kP h k hk);have H:=zz h;have HT:=zz ht;obtain ⟨ob2,cap2,rfl,-⟩:=ht w (Fr.refl _ _);clear h ht;cases hf:yD c.G k with
 | none=>
  rw [hf] at GW;dsimp only [zDf,Option.isSome_none] at GW;have HF:=zz hf;clear hf;go_enter Tryz.func81,Tryz.ntmps81
  go_wp2_with fail
  refine GW.out.mono ?_;rintro e w1 ⟨rfl,f1⟩;have F1:=zz f1;clear f1 GW;go_wp2_with fail
  go_ret2
  exact ⟨_,11,c,[],rfl,xL.nil,.same H.out F1.out,.inl ⟨HF.out,rfl,rfl,rfl⟩⟩
 | some d=>
  rw [hf] at GW;dsimp only [zDf,vr,Option.isSome_some] at GW;have HF:=zz hf;have HI:=zz (H.out.inv _ (xh hf));clear hf;go_enter Tryz.func81,Tryz.ntmps81
  go_wp2_with fail
  refine GW.out.mono ?_;rintro e w1 ⟨rfl,f1⟩;have H1:=zz (H.out.old f1);have G1:=zz (H1.out.grp _ (xh HF.out));have F1:=zz f1;have BW:=zz (zXt G1.out HI.out.1 (by omega) HI.out.2.1 m gen now hm tops (.slice ob2 tops.length cap2) (fun w9 h9=>HT.out w9 ((F1.out.mono (S':=c.T) fun _ h=>h.elim).trans h9 fun i hi=>.inl (.inr ⟨_,xh HF.out,W_T d i hi⟩))) h2 htz rnd);dsimp only at BW;clear f1 GW htz;go_wp2_with fail
  refine BW.out.mono ?_;rintro e w2 ⟨rv,er,F',K',pl,rfl,hrv,hg,hK,hfw,hr⟩;have iv:=sync_inv HI.out.1 HI.out.2.1 hr;have ST:=zz ((zX.turn H1.out HF.out (zDg.mk' hg (fun i h=>.inl h) hK hfw) ⟨iv.1.mono (by omega),iv.2.1,iv.2.2.2.1.trans HI.out.2.2.1,iv.2.2.2.2.trans HI.out.2.2.2⟩).late F1.out);have HR:=zz hr;have RV:=zz (hrv.mono (K':=fun b=>w.heap.size≤b) fun b hb _=>Nat.le_trans F1.out.size hb);clear hrv hg hK hfw hr iv BW;go_wp2_with fail
  go_ret2
  exact ⟨rv,er,_,pl,rfl,RV.out,ST.out,.inr ⟨d,_,HF.out,rfl,HR.out⟩⟩
theorem field_ph (a b c d:Int) (oa:Option Addr) (n k:Nat) (w:World):(Instr.field 214 (.agg #[.int .i64 a,.int .i64 b,.int .i64 c,.int .i64 d,.slice oa n k]) 0).run Tryz.prog w=.ok (.int .i64 a) w:=by kernel_rfl
def zBx (c:zO) (k:ByteArray) (m gen:Int):Int:=match yD c.G k with
 | none=>if m= -1∧gen= -1 then 0 else 11
 | some d=>if m= -1∧gen= -1 then (if d.F.ph=0 then 0 else 11) else zBv m gen d.F
def MayPost (c:zO) (k:ByteArray) (m gen:Int) (w:World) (e:Ending) (w':World):Prop:=e=.returned (.int .i64 (zBx c k m gen))∧Fr (fun _=>False) w w'
theorem zYf {c:zO} {N:Nat} (h:xd w c N) (hN:N≤900000) (k:ByteArray) (hk:k.size≤maxLen) (m gen:Int) (hm:-1≤m∧m≤2199023255552):
  Calls Tryz.prog 84 #[.pointer (some ⟨c.cb,0,none⟩),.string k,.int .i64 m,.int .i64 gen] w (MayPost c k m gen w):=by
 have GW:=zz (kP h k hk);have H:=zz h;have hal:(m= -1∧gen= -1∧(m == -1)=true∧(gen == -1)=true)∨(¬(m= -1∧gen= -1)∧(m == -1)=false)∨(¬(m= -1∧gen= -1)∧(m == -1)=true∧(gen == -1)=false):=by
  by_cases h1:m= -1
  ·by_cases h2:gen= -1
   ·exact .inl ⟨h1,h2,by rw [h1]; rfl,by rw [h2]; rfl⟩
   ·exact .inr (.inr ⟨fun h=>h2 h.2,by rw [h1]; rfl,by rw [beq_eq_false_iff_ne]; exact h2⟩)
  ·exact .inr (.inl ⟨fun h=>h1 h.1,by rw [beq_eq_false_iff_ne]; exact h1⟩)
 clear h;cases hf:yD c.G k with
 | none=>
  rw [hf] at GW;dsimp only [zDf,Option.isSome_none] at GW;have R1:=zz (show m= -1∧gen= -1→zBx c k m gen=0 from fun h=>by unfold zBx; rw [hf]; exact if_pos h);have R2:=zz (show ¬(m= -1∧gen= -1)→zBx c k m gen=11 from fun h=>by unfold zBx; rw [hf]; exact if_neg h);clear hf;go_enter Tryz.func84,Tryz.ntmps84
  go_wp2_with fail
  refine GW.out.mono ?_;rintro e w1 ⟨rfl,f1⟩;have F1:=zz f1;clear f1 GW;rcases hal with ⟨h1,h2,h3,h4⟩ | ⟨h1,h3⟩ | ⟨h1,h3,h4⟩
  ·have RR:=zz (R1.out ⟨h1,h2⟩)
   clear h1 h2;go_wp2_with fail
   go_ret
   exact ⟨by rw [RR.out]; rfl,F1.out⟩
  ·have RR:=zz (R2.out h1)
   clear h1;go_wp2_with fail
   go_ret
   exact ⟨by rw [RR.out]; rfl,F1.out⟩
  ·have RR:=zz (R2.out h1)
   clear h1;go_wp2_with fail
   go_ret
   exact ⟨by rw [RR.out]; rfl,F1.out⟩
 | some d=>
  rw [hf] at GW;dsimp only [zDf,vr,Option.isSome_some] at GW;have HF:=zz hf;have HI:=zz (H.out.inv _ (xh hf));have R1:=zz (show m= -1∧gen= -1→zBx c k m gen=if d.F.ph=0 then 0 else 11 from fun h=>by unfold zBx; rw [hf]; exact if_pos h);have R2:=zz (show ¬(m= -1∧gen= -1)→zBx c k m gen=zBv m gen d.F from fun h=>by unfold zBx; rw [hf]; exact if_neg h);clear hf;go_enter Tryz.func84,Tryz.ntmps84
  go_wp2_with fail
  refine GW.out.mono ?_;rintro e w1 ⟨rfl,f1⟩;have H1:=zz (H.out.old f1);have G1:=zz (H1.out.grp _ (xh HF.out));have F1:=zz f1;have KW:=zz (zRe G1.out HI.out.1 (by omega) m gen hm);have VW:=zz (zEb G1.out (Nat.le_trans HI.out.1.len (by omega)) HI.out.2.1);dsimp only at KW VW;clear f1 GW;rcases hal with ⟨h1,h2,h3,h4⟩ | ⟨h1,h3⟩ | ⟨h1,h3,h4⟩
  ·have RR:=zz (R1.out ⟨h1,h2⟩)
   clear h1 h2;go_wp2_with fail
   refine VW.out.mono ?_;rintro e w2 ⟨v,ys,rfl,hrow,-,f2⟩;obtain ⟨o9,c9,rfl⟩:=hrow.slice;have hfd:=field_ph d.F.ph d.F.ge d.F.nx d.F.un o9 ys.length c9 w2;clear hrow;have F2:=zz (F1.out.tr f2);clear f2 VW;by_cases hp:d.F.ph=0
   ·have hp1:(d.F.ph == 0)=true:=by rw [hp]; rfl
    have RP:=zz (RR.out.trans (if_pos hp));clear hp;go_wp2_with fail
    go_ret
    exact ⟨by rw [RP.out]; rfl,F2.out⟩
   ·have hp1:(d.F.ph == 0)=false:=by rw [beq_eq_false_iff_ne]; exact hp
    have RP:=zz (RR.out.trans (if_neg hp));clear hp;go_wp2_with fail
    go_ret
    exact ⟨by rw [RP.out]; rfl,F2.out⟩
  ·have RR:=zz (R2.out h1)
   clear h1;go_wp2_with fail
   refine KW.out.mono ?_;rintro e w2 ⟨rfl,f2⟩;have F2:=zz (F1.out.tr f2);clear f2 KW;go_wp2_with fail
   go_ret
   exact ⟨by rw [RR.out]; rfl,F2.out⟩
  ·have RR:=zz (R2.out h1)
   clear h1;go_wp2_with fail
   refine KW.out.mono ?_;rintro e w2 ⟨rfl,f2⟩;have F2:=zz (F1.out.tr f2);clear f2 KW;go_wp2_with fail
   go_ret
   exact ⟨by rw [RR.out]; rfl,F2.out⟩
theorem xd.tab {c:zO} {N:Nat} (h:xd w c N) {O:List Row} (ht:Tbl w' c.ob c.om 1000 O) (hf:Fr (fun i=>i=c.om) w w'):zX c N w w' { c with O:=O } :=
 ⟨⟨(hf.block _ (zA h.b) h.n1.2.2.1).trans h.b,h.map.fr hf h.n1.2.2.2.2,ht,h.n1,h.pos,fun x hx=>(h.grp x hx).fr hf fun i hi e=>h.off x hx i hi (.inr (.inr (.inr e))),fun x hx=>⟨(h.inv x hx).1.mono (by omega),(h.inv x hx).2⟩,h.off,h.dis,h.sr,h.len⟩,rfl,fun i hi=>.inl hi,hf.mono fun i e=>.inl (.inl (.inr (.inr (.inr e))))⟩
def CComPost (c:zO) (N:Nat) (k:Key) (a:Int) (w:World) (e:Ending) (w':World):Prop:=e=.returned (.int .i64 (yb 1000 c.O k a))∧zX c N w w' { c with O:=jJ 1000 c.O k a }
theorem zLy {c:zO} {N:Nat} (h:xd w c N) (g t:ByteArray) (i a:Int):
  Calls Tryz.prog 85 #[.pointer (some ⟨c.cb,0,none⟩),.string g,.agg #[.string t,.int .i64 i],.int .i64 a] w (CComPost c N ⟨g,t,i⟩ a w):=by
 have fa:=(Fr.same w).alloc (.cells #[.string t,.int .i64 i] 169);have HA:=zz (h.old fa);have c0:=zD w #[.string t,.int .i64 i] 169 0;have c1:=zD w #[.string t,.int .i64 i] 169 1;have cb:=zB HA.out.b 3;have FA:=zz fa;have H:=zz h;clear h fa;go_enter Tryz.func85,Tryz.ntmps85
 go_wp2_with fail
 generalize w.alloc (.cells #[.string t,.int .i64 i] 169)=wa at *;have y0:∀y:Lcl.InS (fun w'=>Fr (fun _=>False) wa w'),y.w.cell? ⟨w.heap.size,0,none⟩=some (.string t):=fun y=>y.h.cel c0
 have y1:∀y:Lcl.InS (fun w'=>Fr (fun _=>False) wa w'),y.w.cell? ⟨w.heap.size,1,none⟩=some (.int .i64 i):=fun y=>y.h.cel c1
 have y2:∀y:Lcl.InS (fun w'=>Fr (fun _=>False) wa w'),y.w.cell? ⟨c.cb,3,none⟩=some (.pointer (some ⟨c.ob,0,none⟩)):=fun y=>y.h.cel cb
 have fd:Fr (fun _=>False) wa wa.drew:=(Fr.same wa).drew;have FD:=zz fd;clear fd;refine Lcl.wp_region_calm (by kernel_rfl) [(true,[0,1,2,4,7]),(false,[3,5]),(true,[6])] #[0,1,3,7,0,0,48,0,255,511] [0,1,2,3,4,5,6,7] 2 #[true,true,true,true,true,true,true,true,false,false] (by kernel_rfl) (by kernel_rfl) (by kernel_rfl) (fun w'=>Fr (fun _=>False) wa w') (Fr.same wa).drew (fun d c a v w h=>by cases d <;> exact h) ?_;simp only [Lcl.opsOf,List.map_cons,List.map_nil,List.getElem?_toArray,List.getElem?_cons_succ,List.getElem?_cons_zero,Option.getD_some];refine Lcl.wpCalm_t ?_
 repeat (go_big_quiet_step (rfl))
 refine wpQuiet_nil ?_;refine Lcl.wpCalm_f ?_
 repeat (go_big_quiet_step (rfl))
 refine wpQuiet_nil ?_;refine Lcl.wpCalm_t ?_
 repeat (go_big_quiet_step (rfl))
 refine wpQuiet_nil ?_;refine Lcl.wpCalm_nil ?_;clear y0 y1 y2 c0 c1 cb;generalize wa.drew=wd at *;have HD:=zz (HA.out.old FD.out);have CW:=zz (zOu ⟨g,t,i⟩ a c.ob c.om 1000 c.O wd HD.out.tbl);unfold jc at CW;refine Lcl.wpG_run [8,9] _ _ _ (by kernel_rfl) ?_;simp only [List.map_cons,List.map_nil,List.getElem?_toArray,List.getElem?_cons_succ,List.getElem?_cons_zero,Option.getD_some];go_wp2_with fail
 refine CW.out.mono ?_;rintro e w4 ⟨rfl,ht,hf⟩;have ST:=zz ((HD.out.tab ht hf).late (FA.out.tr FD.out));clear ht hf CW;go_wp2_with fail
 go_ret
 exact ⟨rfl,ST.out⟩
def zOx (c:zO) (k:Key) (w:World) (e:Ending) (w':World):Prop:=e=.returned (.tuple #[.int .i64 ((xQ c.O k).getD 0),.bool (xQ c.O k).isSome])∧Fr (fun _=>False) w w'
theorem zYg {c:zO} {N:Nat} (h:xd w c N) (g t:ByteArray) (i:Int) (hk:yf ⟨g,t,i⟩):
  Calls Tryz.prog 86 #[.pointer (some ⟨c.cb,0,none⟩),.string g,.agg #[.string t,.int .i64 i]] w (zOx c ⟨g,t,i⟩ w):=by
 have fa:=(Fr.same w).alloc (.cells #[.string t,.int .i64 i] 169);have HA:=zz (h.old fa);have c0:=zD w #[.string t,.int .i64 i] 169 0;have c1:=zD w #[.string t,.int .i64 i] 169 1;have cb:=zB HA.out.b 3;have FA:=zz fa;have HK:=zz hk;clear h fa hk;go_enter Tryz.func86,Tryz.ntmps86
 go_wp2_with fail
 generalize w.alloc (.cells #[.string t,.int .i64 i] 169)=wa at *;have y0:∀y:Lcl.InS (fun w'=>Fr (fun _=>False) wa w'),y.w.cell? ⟨w.heap.size,0,none⟩=some (.string t):=fun y=>y.h.cel c0
 have y1:∀y:Lcl.InS (fun w'=>Fr (fun _=>False) wa w'),y.w.cell? ⟨w.heap.size,1,none⟩=some (.int .i64 i):=fun y=>y.h.cel c1
 have y2:∀y:Lcl.InS (fun w'=>Fr (fun _=>False) wa w'),y.w.cell? ⟨c.cb,3,none⟩=some (.pointer (some ⟨c.ob,0,none⟩)):=fun y=>y.h.cel cb
 have fd:Fr (fun _=>False) wa wa.drew:=(Fr.same wa).drew;have FD:=zz fd;clear fd;refine Lcl.wp_region_calm (by kernel_rfl) [(true,[0,1,2,4]),(false,[3,5]),(true,[6])] #[0,1,3,7,0,0,48,127,255,255,1023,2047] [0,1,2,3,4,5,6] 5 #[true,true,true,true,true,true,true,false,false,false,false,false] (by kernel_rfl) (by kernel_rfl) (by kernel_rfl) (fun w'=>Fr (fun _=>False) wa w') (Fr.same wa).drew (fun d c a v w h=>by cases d <;> exact h) ?_;simp only [Lcl.opsOf,List.map_cons,List.map_nil,List.getElem?_toArray,List.getElem?_cons_succ,List.getElem?_cons_zero,Option.getD_some];refine Lcl.wpCalm_t ?_
 repeat (go_big_quiet_step (rfl))
 refine wpQuiet_nil ?_;refine Lcl.wpCalm_f ?_
 repeat (go_big_quiet_step (rfl))
 refine wpQuiet_nil ?_;refine Lcl.wpCalm_t ?_
 repeat (go_big_quiet_step (rfl))
 refine wpQuiet_nil ?_;refine Lcl.wpCalm_nil ?_;clear y0 y1 y2 c0 c1 cb;generalize wa.drew=wd at *;have CW:=zz (get_walk ⟨g,t,i⟩ HK.out c.ob c.om 1000 c.O wd (HA.out.old FD.out).tbl);unfold jc at CW;refine Lcl.wpG_one 7 rfl (by kernel_rfl) ?_;go_wp2_with fail
 refine CW.out.mono ?_;rintro e w4 ⟨rfl,hf⟩;have F4:=zz ((FA.out.tr FD.out).tr hf);clear hf CW;go_wp2_with fail
 refine ⟨fun h=>absurd h (by decide),?_⟩;refine Lcl.wpG_two 8 9 rfl rfl (by kernel_rfl) ?_ ?_
 ·go_wp2_with fail
  refine ⟨fun h=>absurd h (by decide),?_⟩;refine Lcl.wpG_run [9,10,11] _ _ _ (by kernel_rfl) ?_;simp only [List.map_cons,List.map_nil,List.getElem?_toArray,List.getElem?_cons_succ,List.getElem?_cons_zero,Option.getD_some];go_wp2_with fail
  go_ret2
  exact ⟨rfl,F4.out⟩
 ·go_wp2_with fail
  refine ⟨fun h=>absurd h (by decide),?_⟩;refine Lcl.wpG_run [8,10,11] _ _ _ (by kernel_rfl) ?_;simp only [List.map_cons,List.map_nil,List.getElem?_toArray,List.getElem?_cons_succ,List.getElem?_cons_zero,Option.getD_some];go_wp2_with fail
  go_ret2
  exact ⟨rfl,F4.out⟩
def zYh (c:zO) (N:Nat) (s:ByteArray) (w:World) (e:Ending) (w':World):Prop:=(∃n:Int,e=.returned (.int .i64 n))∧zX c N w w' { c with O:=vY c.O (fun k=>decide (k.t=s)) }
theorem zRx {c:zO} {N:Nat} (h:xd w c N) (s:ByteArray):Calls Tryz.prog 73 #[.pointer (some ⟨c.cb,0,none⟩),.string s] w (zYh c N s w):=by
 have cb:=zB h.b 3;have DW:=zz (zRt s c.ob c.om 1000 c.O w h.tbl);have H:=zz h;clear h;go_enter Tryz.func73,Tryz.ntmps73
 go_wp2_with fail
 refine DW.out.mono ?_;rintro e w2 ⟨rfl,ht,hf⟩;have ST:=zz (H.out.tab ht hf);clear ht hf DW;go_wp2_with fail
 go_ret
 exact ⟨⟨_,rfl⟩,ST.out⟩
end
end Go.Proofs.YtfdhofabgdkkkaaGreatDoor

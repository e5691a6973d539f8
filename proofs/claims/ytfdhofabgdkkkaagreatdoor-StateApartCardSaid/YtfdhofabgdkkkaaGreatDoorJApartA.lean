/- The walk of StateApart. -/
import Derived.Test.YtfdhofabgdkkkaaGreatDoorJ50
import Derived.Test.YtfdhofabgdkkkaaGreatDoorRows
import Derived.Test.YtfdhofabgdkkkaaGreatDoorCards
import Derived.Test.YtfdhofabgdkkkaaGreatDoorTie
import Derived.Lib.LaidU8
import Derived.Test.YtfdhofabgdkkkaaGreatDoorJ24
import Derived.ProofKit
import Derived.Lib.SmallJoins
import Derived.Carry
import Derived.OpenShut
import Derived.LaidMore
import Derived.Lay
import Derived.SevenTiedAt
import Derived.Stop.Joined
namespace Go.Proofs.YtfdhofabgdkkkaaGreatDoor
open Lib renaming hid → zz
open Go.RowKit Go.Fm Go.BigFrame Go.Shelf Go.Maps
set_option linter.unusedVariables false
set_option linter.unusedSimpArgs false
set_option maxRecDepth 100000
section
variable {w w':World} {S:Nat→Prop}
def ApartOK (m:zG):Prop:=∃d,zU m sS 1=some d∧d.st=0∧d.en=1∧d.bats=[xJ 0]
theorem apart_next {q:Req} {m m':zG} (h:ApartOK m) (hs:uP q m m') (hq:q.name≠sS∨(q.index≠1∧q.kind≠2)):ApartOK m':=by
 obtain ⟨d,hd,e1,e2,e3⟩:=h;rcases hs sS 1 d hd with ⟨h1,h2⟩ | ⟨d',h2,-,-,h3⟩
 ·rcases hq with hq | ⟨-,hq⟩
  ·exact absurd h2 hq
  ·exact absurd h1 hq
 ·obtain ⟨g1,g2,g3⟩:=h3 (hq.imp id fun h=>h.1)
  exact ⟨d',h2,g1.trans e1,g2.trans e2,g3.trans e3⟩
theorem name_eq {s:ByteArray} (h:s.toList=[115]):s=⟨#[115]⟩:=Go.WideShapes.bytes_inj (by rw [←Lib.toList_data,←Lib.toList_data]; exact h.trans (Lib.toList_data ⟨#[115]⟩).symm)
set_option maxHeartbeats 64000000 in
theorem apart_walk (l:List AskD) (v:Value) (w:World) (hl:zPq w v l) (hst:zc w) (hcw:ja w):
  Calls Tryz.prog 7 #[v] w fun e w'=>e=.returned (.bool true)∧Fr (fun _=>False) w w':=by
 obtain ⟨oa,cap,rfl,hml,hab⟩:=id hl;have BL:=zz hab;have ML:=zz hml;have ST:=zz hst;have CW:=zz hcw;clear hl hst hcw hab hml;have LV:=zz (fun (w1:World) (f:Fr (fun _=>False) w w1)=>zIi (ST.out.old f) (xf _ _ CW.out f));have SN:=zz (zCa (w:=w) 10 10 (by omega) (by omega) (by have:=CW.out.2; omega));go_enter Tryz.func7,Tryz.ntmps7
 go_wp2_with fail
 refine SN.out.mono ?_;intro e w1 hs;obtain ⟨m0,c0,rfl,hL0,hTL,hLL⟩:=zPp (Fr.same w) hs;have L0:=zz hL0;have C1:=law_made L0.out ST.out hTL hLL (nm:=sS) (count:=2) (by decide) (by decide) (by omega);obtain ⟨mb,hm0⟩:∃mb,m0.mb=mb:=⟨_,rfl⟩;rw [hm0] at C1 ⊢;have HM0:=zz hm0;clear hm0;unfold jh sS at C1;replace C1:=zz C1;clear hL0 hs SN hTL hLL;go_wp2_with fail
 refine C1.out.mono ?_;rintro e w2 ⟨⟨v2,rfl⟩,m1,hL1,hmb1,hnew⟩;obtain ⟨d1,hd1,hN1⟩:=hnew 1 (by omega) (by omega);have L1:=zz hL1;have HD1:=zz (show zU m1 sS 1=some d1 from hd1);have HN1:=zz hN1;have HMB:=zz hmb1;clear hL1 hmb1 hnew hd1 hN1 C1 L0;go_wp2_with fail
 refine (kr w2).mono ?_;rintro e w3 ⟨ob,cb,rfl,hr3,f3⟩;have P3:=law_one (L1.out.same f3) ST.out (by omega) (nm:=sS) (by decide) HD1.out HN1.out _ _ (hr3.mono (K':=fun i=>i < w3.heap.size) fun i _ h=>h) fun i h=>h
 rw [HMB.out] at P3;unfold zT zCr sS xJ at P3;dsimp only at P3;replace P3:=zz P3;unfold yP xJ;clear hr3 f3 L1 HD1 HN1;go_wp2_with fail
 refine P3.out.mono ?_;rintro e w4 ⟨⟨v4,rfl⟩,m4,hL4,hmb4,hA4⟩;have L4:=zz hL4;have A4:=zz (show ApartOK m4 from hA4);have HMB4:=zz hmb4;clear hL4 hmb4 hA4 P3 HMB;go_wp2_with fail
 go_loopw [5] (fun i wr=>∃(k:Nat) (m:zG) (c:zO),i=.int .i64 k∧k≤l.length∧vH w wr m c (k+2)∧m.mb=mb∧ApartOK m) (fun i _=>l.length - (intOf i).toNat)
 case atStart=>exact ⟨0,m4,c0,rfl,Nat.zero_le _,L4.out,HMB4.out,A4.out⟩
 case round=>
  obtain ⟨k,m,c,rfl,hk,hF,hmb,hE⟩:=hrel;have FS:=zz hF;have HMB:=zz hmb;have HE:=zz hE;clear hF hmb hE L4 A4 HMB4;rcases Nat.lt_or_ge k l.length with hlt | hge
  ·by_cases h20:k < 20
   ·have h2i:(k:Int) < 20:=by omega
    obtain ⟨⟨q,ks,tl,rv,kv,tv,now⟩,hx⟩:=zH hlt;obtain ⟨a,hoa,hR,hc⟩:=BL.out k _ hx;subst hoa;dsimp only at hR hc;obtain ⟨ro,rc,rfl,-⟩:=id hR.recs;obtain ⟨ko,kc,rfl,-⟩:=id hR.kids;obtain ⟨to,tc,rfl,-⟩:=id hR.tops;have HR:=zz hR;have AC:=zz (fun (w':World) (hf:Fr (fun _=>False) w w') (j:Nat) (v:Value) hj=>hf.cel (hc j v hj));have lq:∀(j:Nat) (v:Value),[.int .i64 q.kind,.string q.name,.int .i64 q.index,.int .i64 q.count,.int .i64 q.from',.bool q.flag,.int .i64 q.bat.base,.int .i64 q.bat.span,.int .i64 q.bat.prod,.int .i64 q.bat.epoch,.int .i64 q.bat.seq,.slice ro q.bat.recs.length rc,.int .i64 q.fop,.string q.fnm,.string q.fvl,.slice ko ks.len kc,.string q.group,.int .i64 q.member,.int .i64 q.gen,.slice to tl.length tc][j]?=some v→wr.cell? ((a.add (k * 21)).add j)=some v:=fun j v hv=>AC.out wr FS.out.fr j v (by
     have hj:j < 20:=(List.getElem?_eq_some_iff.1 hv).1;have hj2:j < (zT q (.slice ro q.bat.recs.length rc) (.slice ko ks.len kc) (.slice to tl.length tc)).size:=hj;rw [Array.getElem?_push_lt hj2,←Array.getElem?_eq_getElem hj2];unfold zT;rw [List.getElem?_toArray];exact hv)
    obtain ⟨bf,bx⟩:=box50 wr #[.int .i64 q.kind,.string q.name,.int .i64 q.index,.int .i64 q.count,.int .i64 q.from',.bool q.flag,.int .i64 q.bat.base,.int .i64 q.bat.span,.int .i64 q.bat.prod,.int .i64 q.bat.epoch,.int .i64 q.bat.seq,.slice ro q.bat.recs.length rc,.int .i64 q.fop,.string q.fnm,.string q.fvl,.slice ko ks.len kc,.string q.group,.int .i64 q.member,.int .i64 q.gen,.slice to tl.length tc];have hz:=zC wr (.cells #[.int .i64 0,.string ⟨#[]⟩,.int .i64 0,.int .i64 0,.int .i64 0,.bool false,.int .i64 0,.int .i64 0,.int .i64 0,.int .i64 0,.int .i64 0,.slice none 0 0,.int .i64 0,.string ⟨#[]⟩,.string ⟨#[]⟩,.slice none 0 0,.string ⟨#[]⟩,.int .i64 0,.int .i64 0,.slice none 0 0] 50);have X5:=zz bx;have F5:=zz (FS.out.fr.tr bf);have SM:=zz (zEv q ro q.bat.recs.length rc (.slice ko ks.len kc) to tl.length tc ks (hR.recs.old F5.out) (hR.kids.old F5.out) fun i hi=>Nat.lt_of_lt_of_le hi F5.out.size);have L5:=zz (FS.out.same bf);unfold zT at SM;clear bf hc hR hx;go_wp2_with (first | (refine kx rfl 50 _ rfl (a.add (k * 21)) rfl [.int .i64 q.kind,.string q.name,.int .i64 q.index,.int .i64 q.count,.int .i64 q.from',.bool q.flag,.int .i64 q.bat.base,.int .i64 q.bat.span,.int .i64 q.bat.prod,.int .i64 q.bat.epoch,.int .i64 q.bat.seq,.slice ro q.bat.recs.length rc,.int .i64 q.fop,.string q.fnm,.string q.fvl,.slice ko ks.len kc,.string q.group,.int .i64 q.member,.int .i64 q.gen,.slice to tl.length tc] _ lq Tryz.underlying50 rfl (by kernel_rfl) ?_) | (refine wpList_store_row rfl 50 _ _ rfl wr.heap.size #[.int .i64 q.kind,.string q.name,.int .i64 q.index,.int .i64 q.count,.int .i64 q.from',.bool q.flag,.int .i64 q.bat.base,.int .i64 q.bat.span,.int .i64 q.bat.prod,.int .i64 q.bat.epoch,.int .i64 q.bat.seq,.slice ro q.bat.recs.length rc,.int .i64 q.fop,.string q.fnm,.string q.fvl,.slice ko ks.len kc,.string q.group,.int .i64 q.member,.int .i64 q.gen,.slice to tl.length tc] rfl rfl 50 _ hz (by kernel_rfl) rfl (zLm q rfl rfl rfl) ?_) | (refine wpList_load_row rfl 50 _ rfl wr.heap.size rfl 50 _ (0,0) _ bx Tryz.underlying50 rfl (by kernel_rfl) ?_))
    clear lq hz bx;generalize ((wr.alloc (.cells #[.int .i64 0,.string ⟨#[]⟩,.int .i64 0,.int .i64 0,.int .i64 0,.bool false,.int .i64 0,.int .i64 0,.int .i64 0,.int .i64 0,.int .i64 0,.slice none 0 0,.int .i64 0,.string ⟨#[]⟩,.string ⟨#[]⟩,.slice none 0 0,.string ⟨#[]⟩,.int .i64 0,.int .i64 0,.slice none 0 0] 50)).setRow wr.heap.size #[.int .i64 q.kind,.string q.name,.int .i64 q.index,.int .i64 q.count,.int .i64 q.from',.bool q.flag,.int .i64 q.bat.base,.int .i64 q.bat.span,.int .i64 q.bat.prod,.int .i64 q.bat.epoch,.int .i64 q.bat.seq,.slice ro q.bat.recs.length rc,.int .i64 q.fop,.string q.fnm,.string q.fvl,.slice ko ks.len kc,.string q.group,.int .i64 q.member,.int .i64 q.gen,.slice to tl.length tc])=w4 at *;refine SM.out.mono ?_;rintro e w5 ⟨⟨b,rfl⟩,f5⟩;have F6:=zz (F5.out.tr f5);have X6:=zz (blk X5.out f5 fun h=>h);have L6:=zz (L5.out.same f5);clear f5 SM X5 F5 L5;cases b with
    | false=>
     go_wp2_with fail
     refine (LV.out _ F6.out).mono ?_;rintro e w10 ⟨rfl,f10⟩;have F10:=zz (F6.out.tr f10);clear f10;go_wp2_with fail
     go_ret
     exact ⟨rfl,F10.out⟩
    | true=>
     have d0:=(zB X6.out 0).trans (show _=some (Value.int .i64 q.kind) from rfl);have d1:=(zB X6.out 1).trans (show _=some (Value.string q.name) from rfl);have d2:=(zB X6.out 2).trans (show _=some (Value.int .i64 q.index) from rfl);by_cases hn:q.name=⟨#[115]⟩
     ·by_cases hi:q.index=1
      ·go_wp2_with fail
       refine (LV.out _ F6.out).mono ?_;rintro e w10 ⟨rfl,f10⟩;have F10:=zz (F6.out.tr f10);clear f10;go_wp2_with fail
       go_ret
       exact ⟨rfl,F10.out⟩
      ·by_cases hk2:q.kind=2
       ·go_wp2_with fail
        refine (LV.out _ F6.out).mono ?_;rintro e w10 ⟨rfl,f10⟩;have F10:=zz (F6.out.tr f10);clear f10;go_wp2_with fail
        go_ret
        exact ⟨rfl,F10.out⟩
       ·have HQ:=zz (show q.name≠sS∨(q.index≠1∧q.kind≠2) from .inr ⟨hi,hk2⟩)
        have b1:(q.index == 1)=false:=by simpa using hi
        have b2:(q.kind == 2)=false:=by simpa using hk2
        have z20:∀y:Lcl.InS (fun w'=>Fr (fun _=>False) w5 w'),y.w.cell? ⟨(a.add (k * 21)).block,(a.add (k * 21)).off+20,none⟩=some (.int .i64 now):=fun y=>y.h.cel (by rw [←kL _ 20 (by omega)]; exact AC.out w5 F6.out 20 _ rfl)
        have AW:=zz (fun w'=>zHc (w:=w') q ro q.bat.recs.length rc ko ks.len kc to tl.length tc);have DN:=zz (show ∀w',Fr (fun _=>False) w5 w'→Calls Tryz.prog 12 #[.pointer (some ⟨mb,0,none⟩),.agg (zT q (.slice ro q.bat.recs.length rc) (.slice ko ks.len kc) (.slice to tl.length tc)),.int .i64 now] w' (zDk w m (k+2) q) from fun w' hf=>by
         have h:=zFz (L6.out.same hf) (by omega) ST.out CW.out q ks tl _ _ _ HR.out now;rw [HMB.out] at h;exact h)
        unfold zT at AW DN;go_wp2_with fail
        clear hn hi hk2 b1 b2;refine Lcl.wp_region_calm (by kernel_rfl) [(true,[0,3,4,5,6]),(false,[1,7])] #[0,0,2,0,0,24,56,120,255] [0,1,2,3,4,5,6,7] 2 #[true,true,false,true,true,true,true,true,false] (by kernel_rfl) (by kernel_rfl) (by kernel_rfl) (fun w'=>Fr (fun _=>False) w5 w') (Fr.same w5).drew (fun d c a v w h=>by cases d <;> exact h) ?_;simp only [Lcl.opsOf,List.map_cons,List.map_nil,List.getElem?_toArray,List.getElem?_cons_succ,List.getElem?_cons_zero,Option.getD_some];refine Lcl.wpCalm_t ?_
        repeat (go_big_quiet_step (rfl))
        refine wpQuiet_nil ?_;refine Lcl.wpCalm_f ?_;refine uW rfl 50 (.tmp 6) rfl ⟨wr.heap.size,0,none⟩ rfl [.int .i64 q.kind,.string q.name,.int .i64 q.index,.int .i64 q.count,.int .i64 q.from',.bool q.flag,.int .i64 q.bat.base,.int .i64 q.bat.span,.int .i64 q.bat.prod,.int .i64 q.bat.epoch,.int .i64 q.bat.seq,.slice ro q.bat.recs.length rc,.int .i64 q.fop,.string q.fnm,.string q.fvl,.slice ko ks.len kc,.string q.group,.int .i64 q.member,.int .i64 q.gen,.slice to tl.length tc] _ ?hc Tryz.underlying50 rfl (by kernel_rfl) ?_
        case hc=>rintro c ⟨y,rfl⟩; exact zSq (blk X6.out y.h fun h=>h)
        simp only [Act.put,List.setIfInBounds_toArray,List.set_cons_succ,List.set_cons_zero]
        repeat (go_big_quiet_step (rfl))
        refine wpQuiet_nil ?_;refine Lcl.wpCalm_nil ?_;clear z20;refine Lcl.wpG_one 2 rfl (by kernel_rfl) ?_;go_wp2_with fail
        refine (AW.out _).mono ?_;rintro e w7 ⟨rfl,f7⟩;have D7:=zz ((Fr.same w5).drew.tr f7);have DN7:=zz (DN.out _ D7.out);clear f7 DN AW;go_wp2_with fail
        refine ⟨fun _ _=>D7.out,?_⟩;refine Lcl.wpG_run [8] _ _ _ (by kernel_rfl) ?_;simp only [List.map_cons,List.map_nil,List.getElem?_toArray,List.getElem?_cons_succ,List.getElem?_cons_zero,Option.getD_some];go_wp2_with fail
        refine DN7.out.mono ?_;rintro e w8 ⟨⟨v8,rfl⟩,m8,c8,hL8,hmb8,hs8⟩;have L8:=zz hL8;have HMB8:=zz (hmb8.trans HMB.out);clear hL8 hmb8 DN7 D7 L6 F6 X6;have A8:=zz (apart_next HE.out hs8 HQ.out);clear hs8 HE HQ;obtain ⟨d,hd,e1,e2,e3⟩:=A8.out;have FT:=zEg L8.out ST.out CW.out (by omega) (nm:=sS) (ix:=1) (by decide) hd (a:=0) ⟨by omega,by omega⟩;rw [HMB8.out,e1,e2,e3,zIj] at FT;unfold jh sS at FT;replace FT:=zz FT;have HEN:=zz (show kG m8 sS 1=1 by unfold kG; rw [hd]; exact e2);clear hd e1 e2 e3;go_wp2_with fail
        refine FT.out.mono ?_;rintro e wa ⟨bv,rfl,hba,fa⟩;obtain ⟨ob,cb,hbv,-⟩:=id hba;rw [show ([xJ 0]:List Bat).length=1 from rfl] at hbv;subst hbv;have HZ:=zC wa (.cells #[.int .i64 0,.int .i64 0,.int .i64 0,.int .i64 0,.int .i64 0,.int .i64 0,.int .i64 0,.slice none 0 0,.slice none 0 0,.slice none 0 0] 31);obtain ⟨bf,bx⟩:=zEu wa (zS 0 0 0 1 0 0 0 (.slice ob 1 cb) (.slice none 0 0) (.slice none 0 0));have LA:=zz ((L8.out.same fa).same bf);have y0:=(zB bx 0).trans (show _=some (Value.int .i64 0) from rfl);have y2:=(zB bx 2).trans (show _=some (Value.int .i64 0) from rfl);have y3:=(zB bx 3).trans (show _=some (Value.int .i64 1) from rfl);have y7:=(zB bx 7).trans (show _=some (Value.slice ob 1 cb) from rfl);clear bf bx hba fa FT L8;go_wp2_with (refine zzq rfl _ _ rfl wa.heap.size 0 0 0 1 (.slice ob 1 cb) rfl rfl rfl _ HZ rfl ?_)
        clear HZ y0 y2 y3 y7;generalize ((wa.alloc (.cells #[.int .i64 0,.int .i64 0,.int .i64 0,.int .i64 0,.int .i64 0,.int .i64 0,.int .i64 0,.slice none 0 0,.slice none 0 0,.slice none 0 0] 31)).setRow wa.heap.size (zS 0 0 0 1 0 0 0 (.slice ob 1 cb) (.slice none 0 0) (.slice none 0 0)))=wb at *;have EW:=vj LA.out.mi.a sS 1 (by decide) rfl;rw [HMB8.out,HEN.out] at EW;unfold sS at EW;replace EW:=zz EW;refine EW.out.mono ?_;rintro e wc ⟨rfl,fc⟩;have LC:=zz (LA.out.same fc);clear fc EW LA;go_wp2_with fail
        go_roundw
        case rel=>exact ⟨k+1,m8,c8,by go_num,by omega,LC.out,HMB8.out,A8.out⟩
        case measure=>simp [intOf]; omega
     ·have HQ:=zz (show q.name≠sS∨(q.index≠1∧q.kind≠2) from .inl hn)
      have b1:¬q.name.toList=[115]:=fun e=>hn (name_eq e)
      have z20:∀y:Lcl.InS (fun w'=>Fr (fun _=>False) w5 w'),y.w.cell? ⟨(a.add (k * 21)).block,(a.add (k * 21)).off+20,none⟩=some (.int .i64 now):=fun y=>y.h.cel (by rw [←kL _ 20 (by omega)]; exact AC.out w5 F6.out 20 _ rfl)
      have AW:=zz (fun w'=>zHc (w:=w') q ro q.bat.recs.length rc ko ks.len kc to tl.length tc);have DN:=zz (show ∀w',Fr (fun _=>False) w5 w'→Calls Tryz.prog 12 #[.pointer (some ⟨mb,0,none⟩),.agg (zT q (.slice ro q.bat.recs.length rc) (.slice ko ks.len kc) (.slice to tl.length tc)),.int .i64 now] w' (zDk w m (k+2) q) from fun w' hf=>by
       have h:=zFz (L6.out.same hf) (by omega) ST.out CW.out q ks tl _ _ _ HR.out now;rw [HMB.out] at h;exact h)
      unfold zT at AW DN;go_wp2_with fail
      clear hn b1;refine Lcl.wp_region_calm (by kernel_rfl) [(true,[0,3,4,5,6]),(false,[1,7])] #[0,0,2,0,0,24,56,120,255] [0,1,2,3,4,5,6,7] 2 #[true,true,false,true,true,true,true,true,false] (by kernel_rfl) (by kernel_rfl) (by kernel_rfl) (fun w'=>Fr (fun _=>False) w5 w') (Fr.same w5).drew (fun d c a v w h=>by cases d <;> exact h) ?_;simp only [Lcl.opsOf,List.map_cons,List.map_nil,List.getElem?_toArray,List.getElem?_cons_succ,List.getElem?_cons_zero,Option.getD_some];refine Lcl.wpCalm_t ?_
      repeat (go_big_quiet_step (rfl))
      refine wpQuiet_nil ?_;refine Lcl.wpCalm_f ?_;refine uW rfl 50 (.tmp 6) rfl ⟨wr.heap.size,0,none⟩ rfl [.int .i64 q.kind,.string q.name,.int .i64 q.index,.int .i64 q.count,.int .i64 q.from',.bool q.flag,.int .i64 q.bat.base,.int .i64 q.bat.span,.int .i64 q.bat.prod,.int .i64 q.bat.epoch,.int .i64 q.bat.seq,.slice ro q.bat.recs.length rc,.int .i64 q.fop,.string q.fnm,.string q.fvl,.slice ko ks.len kc,.string q.group,.int .i64 q.member,.int .i64 q.gen,.slice to tl.length tc] _ ?hc Tryz.underlying50 rfl (by kernel_rfl) ?_
      case hc=>rintro c ⟨y,rfl⟩; exact zSq (blk X6.out y.h fun h=>h)
      simp only [Act.put,List.setIfInBounds_toArray,List.set_cons_succ,List.set_cons_zero]
      repeat (go_big_quiet_step (rfl))
      refine wpQuiet_nil ?_;refine Lcl.wpCalm_nil ?_;clear z20;refine Lcl.wpG_one 2 rfl (by kernel_rfl) ?_;go_wp2_with fail
      refine (AW.out _).mono ?_;rintro e w7 ⟨rfl,f7⟩;have D7:=zz ((Fr.same w5).drew.tr f7);have DN7:=zz (DN.out _ D7.out);clear f7 DN AW;go_wp2_with fail
      refine ⟨fun _ _=>D7.out,?_⟩;refine Lcl.wpG_run [8] _ _ _ (by kernel_rfl) ?_;simp only [List.map_cons,List.map_nil,List.getElem?_toArray,List.getElem?_cons_succ,List.getElem?_cons_zero,Option.getD_some];go_wp2_with fail
      refine DN7.out.mono ?_;rintro e w8 ⟨⟨v8,rfl⟩,m8,c8,hL8,hmb8,hs8⟩;have L8:=zz hL8;have HMB8:=zz (hmb8.trans HMB.out);clear hL8 hmb8 DN7 D7 L6 F6 X6;have A8:=zz (apart_next HE.out hs8 HQ.out);clear hs8 HE HQ;obtain ⟨d,hd,e1,e2,e3⟩:=A8.out;have FT:=zEg L8.out ST.out CW.out (by omega) (nm:=sS) (ix:=1) (by decide) hd (a:=0) ⟨by omega,by omega⟩;rw [HMB8.out,e1,e2,e3,zIj] at FT;unfold jh sS at FT;replace FT:=zz FT;have HEN:=zz (show kG m8 sS 1=1 by unfold kG; rw [hd]; exact e2);clear hd e1 e2 e3;go_wp2_with fail
      refine FT.out.mono ?_;rintro e wa ⟨bv,rfl,hba,fa⟩;obtain ⟨ob,cb,hbv,-⟩:=id hba;rw [show ([xJ 0]:List Bat).length=1 from rfl] at hbv;subst hbv;have HZ:=zC wa (.cells #[.int .i64 0,.int .i64 0,.int .i64 0,.int .i64 0,.int .i64 0,.int .i64 0,.int .i64 0,.slice none 0 0,.slice none 0 0,.slice none 0 0] 31);obtain ⟨bf,bx⟩:=zEu wa (zS 0 0 0 1 0 0 0 (.slice ob 1 cb) (.slice none 0 0) (.slice none 0 0));have LA:=zz ((L8.out.same fa).same bf);have y0:=(zB bx 0).trans (show _=some (Value.int .i64 0) from rfl);have y2:=(zB bx 2).trans (show _=some (Value.int .i64 0) from rfl);have y3:=(zB bx 3).trans (show _=some (Value.int .i64 1) from rfl);have y7:=(zB bx 7).trans (show _=some (Value.slice ob 1 cb) from rfl);clear bf bx hba fa FT L8;go_wp2_with (refine zzq rfl _ _ rfl wa.heap.size 0 0 0 1 (.slice ob 1 cb) rfl rfl rfl _ HZ rfl ?_)
      clear HZ y0 y2 y3 y7;generalize ((wa.alloc (.cells #[.int .i64 0,.int .i64 0,.int .i64 0,.int .i64 0,.int .i64 0,.int .i64 0,.int .i64 0,.slice none 0 0,.slice none 0 0,.slice none 0 0] 31)).setRow wa.heap.size (zS 0 0 0 1 0 0 0 (.slice ob 1 cb) (.slice none 0 0) (.slice none 0 0)))=wb at *;have EW:=vj LA.out.mi.a sS 1 (by decide) rfl;rw [HMB8.out,HEN.out] at EW;unfold sS at EW;replace EW:=zz EW;refine EW.out.mono ?_;rintro e wc ⟨rfl,fc⟩;have LC:=zz (LA.out.same fc);clear fc EW LA;go_wp2_with fail
      go_roundw
      case rel=>exact ⟨k+1,m8,c8,by go_num,by omega,LC.out,HMB8.out,A8.out⟩
      case measure=>simp [intOf]; omega
   ·have h2i:¬(k:Int) < 20:=by omega
    go_wp2_with fail
    refine (LV.out _ FS.out.fr).mono ?_;rintro e w10 ⟨rfl,f10⟩;have F10:=zz (FS.out.fr.tr f10);clear f10;go_wp2_with fail
    go_ret
    exact ⟨rfl,F10.out⟩
  ·obtain rfl:k=l.length:=by omega
   go_wp2_with fail
   refine (LV.out _ FS.out.fr).mono ?_;rintro e w10 ⟨rfl,f10⟩;have F10:=zz (FS.out.fr.tr f10);clear f10;go_wp2_with fail
   go_ret
   exact ⟨rfl,F10.out⟩
end
end Go.Proofs.YtfdhofabgdkkkaaGreatDoor
namespace Go.Proofs.YtfdhofabgdkkkaaGreatDoor.stateApart
open Go.ChangeShapes Go.WideShapes Go.ChangeAt Go.RowKit Go.Joins Go.Fm Go.BigFrame
set_option linter.unusedVariables false
set_option maxRecDepth 100000
theorem own:ownKnob Tryz.prog.godebug=none:=by kernel_rfl
theorem laidOut:laidOutB Tryz.prog=true:=by kernel_rfl
theorem first_of {W:World} (h:laidMetH Tryz.prog [("flotsam/crcc.steps",Rows.laid_flotsam_crcc_steps),("unicode/utf8.acceptRanges",Rows.laid_unicode_utf8_acceptRanges),("unicode/utf8.first",Rows.laid_unicode_utf8_first)] W):laidMetH Tryz.prog [("flotsam/crcc.steps",Rows.laid_flotsam_crcc_steps)] W:=by
 rw [MakeChecks.laidMetH_plain _ _ _ (by kernel_rfl)] at h ⊢
 obtain ⟨ps,⟨g,t,cs,fuel,p,q,h1,h2,h3,h4,h5,rfl⟩,nd,hc⟩:=h
 refine ⟨_,⟨g,t,cs,fuel,p,[],h1,h2,h3,h4,rfl,rfl⟩,?_,fun b off hm=>hc b off ?_⟩
 ·rw [List.append_nil]; exact (List.nodup_append.1 nd).1
 ·rw [List.append_nil] at hm; exact List.mem_append_left _ hm
theorem first_eq:(Rows.laid_unicode_utf8_first:DataW Unit)=Lib.firstData:=by kernel_rfl
theorem accept_eq:(Rows.laid_unicode_utf8_acceptRanges:DataW Unit)=Lib.acceptData:=by kernel_rfl
theorem hasCw_of {W:World} (h:laidMetH Tryz.prog [("flotsam/crcc.steps",Rows.laid_flotsam_crcc_steps),("unicode/utf8.acceptRanges",Rows.laid_unicode_utf8_acceptRanges),("unicode/utf8.first",Rows.laid_unicode_utf8_first)] W):ja W:=by
 have h1:laidMet Tryz.prog [("flotsam/crcc.steps",Rows.laid_flotsam_crcc_steps),("unicode/utf8.acceptRanges",Rows.laid_unicode_utf8_acceptRanges),("unicode/utf8.first",Rows.laid_unicode_utf8_first)] W:=by
  rw [MakeChecks.laidMetH_plain _ _ _ (by kernel_rfl)] at h
  exact h
 have hU:Lib.Utf8Tabs 1 2 W:=
  utf8Tabs_of_reads (ρ:=Tryz.lays260_ren) { Tryz.lays260 with } ⟨by kernel_rfl,by kernel_rfl,by kernel_rfl,by kernel_rfl,by kernel_rfl,by kernel_rfl,by kernel_rfl⟩ (first_eq ▸ Lib.laidMet.reads h1 (.tail _ (.tail _ (.head _)))) (accept_eq ▸ Lib.laidMet.reads h1 (.tail _ (.head _)))
 exact ⟨hU,World.block_lt_of_cell? W ⟨2,0,none⟩ (hU.2 0 (by omega)).1⟩
theorem lifted (os:Os) (started:os.Started) (H:Type) (enc:TypeId × Value→H):
  ReturnsInHanded {} Tryz.checked os 7 .any (fun w args=>(Rows.stateApartSpec.pre enc Tryz.prog Tryz.f7 Rows.stateApartRow.domain false w args∧laidMetH Tryz.prog [("flotsam/crcc.steps",Rows.laid_flotsam_crcc_steps),("unicode/utf8.acceptRanges",Rows.laid_unicode_utf8_acceptRanges),("unicode/utf8.first",Rows.laid_unicode_utf8_first)] w)∧sizedMet enc Tryz.prog Tryz.f7 (OpenSpec.ofChange Rows.stateApartSpec) false w args)
   (Rows.stateApartSpec.post enc Tryz.prog Tryz.f7 false true false false):=by
 refine returnsInHanded_of_change_and (C:=Tryz.checked) (X:=fun w _=>laidMetH Tryz.prog [("flotsam/crcc.steps",Rows.laid_flotsam_crcc_steps),("unicode/utf8.acceptRanges",Rows.laid_unicode_utf8_acceptRanges),("unicode/utf8.first",Rows.laid_unicode_utf8_first)] w) (fun _ _ _ hh h=>h.of_heap hh) own started (by kernel_rfl) Tryz.func7
  (ChangeSpec.witness_shaped (enc:=enc) (C:=Tryz.checked) (os:=os) (X:=fun w _=>laidMetH Tryz.prog [("flotsam/crcc.steps",Rows.laid_flotsam_crcc_steps),("unicode/utf8.acceptRanges",Rows.laid_unicode_utf8_acceptRanges),("unicode/utf8.first",Rows.laid_unicode_utf8_first)] w) false (World.laidAll Tryz.prog os [("flotsam/crcc.steps",Rows.laid_flotsam_crcc_steps),("unicode/utf8.acceptRanges",Rows.laid_unicode_utf8_acceptRanges),("unicode/utf8.first",Rows.laid_unicode_utf8_first)]) #[.slice none 0 0] 8 (World.laidAll_os _ _ _)
   (World.shaped_of_ZipB (by kernel_rfl) (by kernel_rfl)) (by kernel_rfl) (by kernel_rfl) (by kernel_rfl)
   (by rw [MakeChecks.laidMetH_plain _ _ _ (by kernel_rfl)]; exact laidMet_laidAll _ (by kernel_rfl) (by kernel_rfl))) ?_
 intro W base args ds gs before hval0 hW hc hsz hL _
 have hval:∀(j:Nat) t v,Tryz.f7.params[j]?=some t→args[j]?=some v→Value.okWide Tryz.prog W .any base t v:=hval0
 have hW':=hW
 obtain ⟨p,q,hA0,hV,rfl,hfz,hnd⟩:=hW
 have hA:DataW.TrodAll enc Tryz.prog W 0 (fun _=>true) true Tryz.f7.params.toList args.toList ds p:=hA0
 rw [Tryz.params7] at hA hval
 obtain ⟨v0,vs0,d0,ds0,p0,q0,hargs0,rfl,rfl,h0,r0⟩:=trodAll_cons hA
 obtain ⟨rfl,rfl,rfl⟩:=trodAll_nil r0
 obtain rfl:args=#[v0]:=by cases args; simp_all
 obtain ⟨rfl,rfl⟩:=trodVars_none hV
 have k0:=h0
 have lt0:∀x∈p0,x.block < W.heap.size:=by obtain ⟨m,hm⟩:=k0; exact DataW.trod_lt m _ _ _ hm
 have hw9:∀n∈d0.weights Tryz.prog 49,n≤reachBytes:=fun n hn=>by
  have h1:=List.all_eq_true.1 hsz n (DataW.weights_mem_each (j:=0) (t:=49) (d:=d0) (by rw [Tryz.params7]; rfl) (by first | rfl | simp) n hn)
  simpa using h1
 obtain ⟨a0,len0,cap0,rfl⟩:=Go.WideShapes.okWide_slice Tryz.underlying49 (hval 0 49 v0 rfl rfl)
 obtain ⟨l0,hl0⟩:∃l,zPq W (.slice a0 len0 cap0) l:=by
  obtain ⟨m,hm⟩:=k0
  exact zUj hm hw9
 have hst:=zOb (first_of hL)
 clear hA0 hval0
 refine (apart_walk l0 _ W hl0 hst (hasCw_of hL)).mono fun e W' ⟨he,hf⟩=>?_
 have bel:Below W.heap.size W W':=hf.below (Nat.le_refl _) fun k hk=>hk.elim
 subst he
 exact ⟨_,rfl,_,_,_,[],_,[],hW',trodAll_mk1 (shut_bool Tryz.underlying4 _),(trodAll_cons_mk (Below.trod laidOut (by kernel_rfl) (of_decide_eq_true (by kernel_rfl)) k0 bel lt0) trodAll_mk0),rfl,bel.frame _,fun h=>by cases h⟩
end Go.Proofs.YtfdhofabgdkkkaaGreatDoor.stateApart

/- A part of the proof that what the machine is told keeps its bounds. -/
import Derived.Test.YtfdhofabgdkkkaaGreatDoorJ26
set_option maxHeartbeats 128000000
set_option maxRecDepth 100000
namespace Go.Proofs.YtfdhofabgdkkkaaGreatDoor
open Lib renaming hid→zz
open Go.RowKit Go.Fm Go.BigFrame Go.Shelf Go.Maps
set_option linter.unusedVariables false
set_option linter.unusedSimpArgs false
section
variable {w w':World} {S K:Nat→Prop}
structure yM where
 id:Int
 tl:List ByteArray
 ta:Option Addr
 tn:Nat
 tc:Nat
def kY (w:World) (v:Value) (l:List yM):Prop:=∃oa cap,v=.slice oa l.length cap∧∀i z,l[i]?=some z→∃g,oa=some ⟨g,0,none⟩∧w.cell? ⟨g,i * 2,none⟩=some (.int .i64 z.id)∧w.cell? ⟨g,i * 2+1,none⟩=some (.slice z.ta z.tn z.tc)
def jq (w:World) (v:Value) (l:List (ByteArray × Int)):Prop:=∃oa cap,v=.slice oa l.length cap∧∀i z,l[i]?=some z→∃g,oa=some ⟨g,0,none⟩∧w.cell? ⟨g,i * 2,none⟩=some (.string z.1)∧w.cell? ⟨g,i * 2+1,none⟩=some (.int .i64 z.2)
theorem kY.old {v:Value} {l:List yM} (h:kY w v l) (hf:Fr (fun _=>False) w w'):kY w' v l:=by
 obtain ⟨oa,cap,e,h⟩:=h;exact ⟨oa,cap,e,fun i z hz=>by obtain ⟨g,e,c0,c1⟩:=h i z hz; exact ⟨g,e,hf.cel c0,hf.cel c1⟩⟩
theorem jq.old {v:Value} {l:List (ByteArray × Int)} (h:jq w v l) (hf:Fr (fun _=>False) w w'):jq w' v l:=by
 obtain ⟨oa,cap,e,h⟩:=h;exact ⟨oa,cap,e,fun i z hz=>by obtain ⟨g,e,c0,c1⟩:=h i z hz; exact ⟨g,e,hf.cel c0,hf.cel c1⟩⟩
theorem kY.nil:kY w (.slice none 0 0) []:=⟨none,0,rfl,fun i z h=>by simp at h⟩
theorem jq.nil:jq w (.slice none 0 0) []:=⟨none,0,rfl,fun i z h=>by simp at h⟩
def zHh (P:Prop) (w:World) (e:Ending) (w':World):Prop:=(∃c:Bool,e=.returned (.bool c)∧(c=true→P)∧(c=false→¬P))∧Fr (fun _=>False) w w'
theorem zKb (x:Int) (ta:Option Addr) (tn tc:Nat):Calls Tryz.prog 251 #[.agg #[.int .i64 x,.slice ta tn tc]] w fun e w'=>e=.returned (.int .i64 x)∧Fr (fun _=>False) w w':=by
 go_enter Tryz.func251,Tryz.ntmps251
 go_wp2_with fail
 go_ret
 exact ⟨rfl,(Fr.same _).alloc _⟩
theorem zKc (s:ByteArray) (x:Int):Calls Tryz.prog 253 #[.agg #[.string s,.int .i64 x]] w fun e w'=>e=.returned (.string s)∧Fr (fun _=>False) w w':=by
 go_enter Tryz.func253,Tryz.ntmps253
 go_wp2_with fail
 go_ret
 exact ⟨rfl,(Fr.same _).alloc _⟩
def riseI (l:List yM) (k:Nat):Prop:=∀(i:Nat) (a b:yM),i+1 < k→l[i]?=some a→l[i+1]?=some b→a.id < b.id
def riseT (l:List (ByteArray × Int)) (k:Nat):Prop:=∀(i:Nat) (a b:ByteArray × Int),i+1 < k→l[i]?=some a→l[i+1]?=some b→Op.bytesLess a.1.toList b.1.toList=true
theorem zRh (l:List yM) (v:Value) (h:kY w v l) (hl:l.length≤1000):Calls Tryz.prog 250 #[v,.func (.func 251) #[] #[]] w (zHh (riseI l l.length) w):=by
 obtain ⟨oa,cap,rfl,h1⟩:=h;have H:=zz h1;clear h1;go_enter Tryz.func250,Tryz.ntmps250
 go_wp2_with fail
 go_loopw [5] (fun i wr=>∃k:Nat,i=.int .i64 k∧1≤k∧(k≤l.length∨k=1)∧riseI l k∧Fr (fun _=>False) w wr) (fun i _=>l.length - (intOf i).toNat)
 case atStart=>exact ⟨1,rfl,Nat.le_refl _,.inr rfl,fun i a b h=>absurd h (by omega),Fr.same _⟩
 case round=>
  obtain ⟨k,rfl,hk1,hk2,hr,hF⟩:=hrel;have FF:=zz hF;have RR:=zz hr;clear hF hr;rcases Nat.lt_or_ge k l.length with hlt | hge
  ·obtain ⟨j,rfl⟩:∃j,k=j+1:=⟨k - 1,by omega⟩
   obtain ⟨x,hx⟩:=zH (l:=l) (k:=j) (by omega);obtain ⟨y,hy⟩:=zH hlt;obtain ⟨g,rfl,hc,hd⟩:=H.out j x hx;obtain ⟨g',hg',hc',hd'⟩:=H.out (j+1) y hy;injection hg' with hg'
   injection hg' with hg'
   subst hg';have HX:=zz hx;have HY:=zz hy;have z0:∀z:Lcl.InS (fun w'=>Fr (fun _=>False) wr w'),z.w.cell? ⟨g,j * 2,none⟩=some (.int .i64 x.id):=fun z=>z.h.cel (FF.out.cel hc)
   have z1:∀z:Lcl.InS (fun w'=>Fr (fun _=>False) wr w'),z.w.cell? ⟨g,j * 2+1,none⟩=some (.slice x.ta x.tn x.tc):=fun z=>z.h.cel (FF.out.cel hd)
   have z2:∀z:Lcl.InS (fun w'=>Fr (fun _=>False) wr w'),z.w.cell? ⟨g,(j+1) * 2,none⟩=some (.int .i64 y.id):=fun z=>z.h.cel (FF.out.cel hc')
   have z3:∀z:Lcl.InS (fun w'=>Fr (fun _=>False) wr w'),z.w.cell? ⟨g,(j+1) * 2+1,none⟩=some (.slice y.ta y.tn y.tc):=fun z=>z.h.cel (FF.out.cel hd')
   clear hx hy hc hc' hd hd';go_wp2_with fail
   refine Lcl.wp_region_calm (by kernel_rfl) [(true,[0,1,2,3,4,7,8,9,10]),(false,[5,11])] #[0,0,0,4,14,30,63,0,0,0,768,1792,4095,8191] [0,1,2,3,4,5,6,7,8,9,10,11] 3 #[true,true,true,true,true,true,false,true,true,true,true,true,false,false] (by kernel_rfl) (by kernel_rfl) (by kernel_rfl) (fun w'=>Fr (fun _=>False) wr w') (Fr.same wr).drew (fun d c a v w h=>by cases d <;> exact h) ?_;simp only [Lcl.opsOf,List.map_cons,List.map_nil,List.getElem?_toArray,List.getElem?_cons_succ,List.getElem?_cons_zero,Option.getD_some];refine Lcl.wpCalm_t ?_
   repeat (go_big_quiet_step (rfl))
   refine wpQuiet_nil ?_;refine Lcl.wpCalm_f ?_
   repeat (go_big_quiet_step (rfl))
   refine wpQuiet_nil ?_;refine Lcl.wpCalm_nil ?_;clear z0 z1 z2 z3;have fd:Fr (fun _=>False) wr wr.drew:=(Fr.same wr).drew;have FD:=zz fd;have R1:=zz (zKb (w:=wr.drew) x.id x.ta x.tn x.tc);have R2:=zz (fun w':World=>zKb (w:=w') y.id y.ta y.tn y.tc);clear fd;generalize wr.drew=wd at *;refine Lcl.wpG_one 6 rfl (by kernel_rfl) ?_;go_wp2_with fail
   refine R1.out.mono ?_;rintro e w1 ⟨rfl,f1⟩;have D1:=zz (FD.out.tr f1);clear f1;go_wp2_with fail
   refine ⟨fun _ _=>D1.out,?_⟩;refine Lcl.wpG_one 12 rfl (by kernel_rfl) ?_;have R3:=R2.out w1;go_wp2_with fail
   refine R3.mono ?_;rintro e w2 ⟨rfl,f2⟩;have D2:=zz (D1.out.tr f2);clear f2 R3;go_wp2_with fail
   refine ⟨fun _ _=>D2.out,?_⟩;refine Lcl.wpG_run [13] _ _ _ (by kernel_rfl) ?_;simp only [List.map_cons,List.map_nil,List.getElem?_toArray,List.getElem?_cons_succ,List.getElem?_cons_zero,Option.getD_some];by_cases hb:x.id < y.id
   ·have HB:=zz hb
    have hb1:decide (x.id≥y.id)=false:=decide_eq_false (by omega);have hb2:decide (y.id≤x.id)=false:=decide_eq_false (by omega);clear hb;go_wp2_with fail
    go_roundw
    case rel=>exact ⟨j+2,by go_num,by omega,.inl (by omega),fun i p q hi hp hq=>by
     rcases Nat.lt_or_ge (i+1) (j+1) with h9 | h9
     ·exact RR.out i p q h9 hp hq
     ·obtain rfl:i=j:=by omega
      obtain rfl:=Option.some.inj (HX.out.symm.trans hp);obtain rfl:=Option.some.inj (HY.out.symm.trans hq);exact HB.out,FF.out.tr D2.out⟩
    case measure=>simp [intOf]; omega
   ·have HB:=zz hb
    have hb1:decide (x.id≥y.id)=true:=decide_eq_true (by omega);have hb2:decide (y.id≤x.id)=true:=decide_eq_true (by omega);clear hb;go_wp2_with fail
    go_ret
    exact ⟨⟨false,rfl,fun h=>(by cases h),fun _ hall=>by have:=hall j x y hlt HX.out HY.out; have:=HB.out; omega⟩,FF.out.tr D2.out⟩
  ·go_wp2_with fail
   go_ret
   refine ⟨⟨true,rfl,fun _=>?_,fun h=>by cases h⟩,FF.out⟩;intro i a b hi ha hb;exact RR.out i a b (by omega) ha hb
theorem zRi (l:List (ByteArray × Int)) (v:Value) (h:jq w v l) (hl:l.length≤1000):Calls Tryz.prog 252 #[v,.func (.func 253) #[] #[]] w (zHh (riseT l l.length) w):=by
 obtain ⟨oa,cap,rfl,h1⟩:=h;have H:=zz h1;clear h1;go_enter Tryz.func252,Tryz.ntmps252
 go_wp2_with fail
 go_loopw [5] (fun i wr=>∃k:Nat,i=.int .i64 k∧1≤k∧(k≤l.length∨k=1)∧riseT l k∧Fr (fun _=>False) w wr) (fun i _=>l.length - (intOf i).toNat)
 case atStart=>exact ⟨1,rfl,Nat.le_refl _,.inr rfl,fun i a b h=>absurd h (by omega),Fr.same _⟩
 case round=>
  obtain ⟨k,rfl,hk1,hk2,hr,hF⟩:=hrel;have FF:=zz hF;have RR:=zz hr;clear hF hr;rcases Nat.lt_or_ge k l.length with hlt | hge
  ·obtain ⟨j,rfl⟩:∃j,k=j+1:=⟨k - 1,by omega⟩
   obtain ⟨x,hx⟩:=zH (l:=l) (k:=j) (by omega);obtain ⟨y,hy⟩:=zH hlt;obtain ⟨g,rfl,hc,hd⟩:=H.out j x hx;obtain ⟨g',hg',hc',hd'⟩:=H.out (j+1) y hy;injection hg' with hg'
   injection hg' with hg'
   subst hg';have HX:=zz hx;have HY:=zz hy;have z0:∀z:Lcl.InS (fun w'=>Fr (fun _=>False) wr w'),z.w.cell? ⟨g,j * 2,none⟩=some (.string x.1):=fun z=>z.h.cel (FF.out.cel hc)
   have z1:∀z:Lcl.InS (fun w'=>Fr (fun _=>False) wr w'),z.w.cell? ⟨g,j * 2+1,none⟩=some (.int .i64 x.2):=fun z=>z.h.cel (FF.out.cel hd)
   have z2:∀z:Lcl.InS (fun w'=>Fr (fun _=>False) wr w'),z.w.cell? ⟨g,(j+1) * 2,none⟩=some (.string y.1):=fun z=>z.h.cel (FF.out.cel hc')
   have z3:∀z:Lcl.InS (fun w'=>Fr (fun _=>False) wr w'),z.w.cell? ⟨g,(j+1) * 2+1,none⟩=some (.int .i64 y.2):=fun z=>z.h.cel (FF.out.cel hd')
   clear hx hy hc hc' hd hd';go_wp2_with fail
   refine Lcl.wp_region_calm (by kernel_rfl) [(true,[0,1,2,3,4,7,8,9,10]),(false,[5,11])] #[0,0,0,4,14,30,63,0,0,0,768,1792,4095,8191] [0,1,2,3,4,5,6,7,8,9,10,11] 3 #[true,true,true,true,true,true,false,true,true,true,true,true,false,false] (by kernel_rfl) (by kernel_rfl) (by kernel_rfl) (fun w'=>Fr (fun _=>False) wr w') (Fr.same wr).drew (fun d c a v w h=>by cases d <;> exact h) ?_;simp only [Lcl.opsOf,List.map_cons,List.map_nil,List.getElem?_toArray,List.getElem?_cons_succ,List.getElem?_cons_zero,Option.getD_some];refine Lcl.wpCalm_t ?_
   repeat (go_big_quiet_step (rfl))
   refine wpQuiet_nil ?_;refine Lcl.wpCalm_f ?_
   repeat (go_big_quiet_step (rfl))
   refine wpQuiet_nil ?_;refine Lcl.wpCalm_nil ?_;clear z0 z1 z2 z3;have fd:Fr (fun _=>False) wr wr.drew:=(Fr.same wr).drew;have FD:=zz fd;have R1:=zz (zKc (w:=wr.drew) x.1 x.2);have R2:=zz (fun w':World=>zKc (w:=w') y.1 y.2);clear fd;generalize wr.drew=wd at *;refine Lcl.wpG_one 6 rfl (by kernel_rfl) ?_;go_wp2_with fail
   refine R1.out.mono ?_;rintro e w1 ⟨rfl,f1⟩;have D1:=zz (FD.out.tr f1);clear f1;go_wp2_with fail
   refine ⟨fun _ _=>D1.out,?_⟩;refine Lcl.wpG_one 12 rfl (by kernel_rfl) ?_;have R3:=R2.out w1;go_wp2_with fail
   refine R3.mono ?_;rintro e w2 ⟨rfl,f2⟩;have D2:=zz (D1.out.tr f2);clear f2 R3;go_wp2_with fail
   refine ⟨fun _ _=>D2.out,?_⟩;refine Lcl.wpG_run [13] _ _ _ (by kernel_rfl) ?_;simp only [List.map_cons,List.map_nil,List.getElem?_toArray,List.getElem?_cons_succ,List.getElem?_cons_zero,Option.getD_some];cases hb:Op.bytesLess x.1.toList y.1.toList with
   | false=>
    have HB:=zz hb;go_wp2_with fail
    go_ret
    refine ⟨⟨false,rfl,fun h=>(by cases h),fun _ hall=>?_⟩,FF.out.tr D2.out⟩
    have:=hall j x y hlt HX.out HY.out
    rw [HB.out] at this;cases this
   | true=>
    have HB:=zz hb;go_wp2_with fail
    go_roundw
    case rel=>exact ⟨j+2,by go_num,by omega,.inl (by omega),fun i p q hi hp hq=>by
     rcases Nat.lt_or_ge (i+1) (j+1) with h9 | h9
     ·exact RR.out i p q h9 hp hq
     ·obtain rfl:i=j:=by omega
      obtain rfl:=Option.some.inj (HX.out.symm.trans hp);obtain rfl:=Option.some.inj (HY.out.symm.trans hq);exact HB.out,FF.out.tr D2.out⟩
    case measure=>simp [intOf]; omega
  ·go_wp2_with fail
   go_ret
   refine ⟨⟨true,rfl,fun _=>?_,fun h=>by cases h⟩,FF.out⟩;intro i a b hi ha hb;exact RR.out i a b (by omega) ha hb
end
section
variable {w w':World} {S K:Nat→Prop}
def SubOk (z:yM):Prop:=0≤z.id∧z.id≤1073741824∧z.tl.length≤20∧zKa z.tl z.tl.length
def TopOk (t:ByteArray × Int):Prop:=1≤t.2∧t.2≤16
structure zOf (subs:List yM) (tops:List (ByteArray × Int)):Prop where
 sl:subs.length≤20
 tl:tops.length≤20
 si:riseI subs subs.length
 ti:riseT tops tops.length
 so:∀z∈subs,SubOk z
 to:∀t∈tops,TopOk t
def zXg (P:Prop) (w:World) (e:Ending) (w':World):Prop:=((e=.returned (.int .i64 0)∧P)∨(e=.returned (.int .i64 1)∧¬P))∧Fr (fun _=>False) w w'
def zLq (K:Nat→Prop) (w:World) (l:List yM):Prop:=∀z∈l,xS K w (.slice z.ta z.tn z.tc) z.tl
theorem strs_tn {ta:Option Addr} {tn tc:Nat} {l:List ByteArray} (h:xS K w (.slice ta tn tc) l):tn=l.length:=by
 obtain ⟨oa,cap,e,-⟩:=h;injection e with e1 e2 e3
theorem vA (subs:List yM) (tops:List (ByteArray × Int)) (sv tv:Value) (hs:kY w sv subs) (ht:jq w tv tops) (hk:zLq K w subs) (hkl:∀z∈subs,z.tl.length≤1000) (h1:subs.length≤1000) (h2:tops.length≤1000):
  Calls Tryz.prog 203 #[sv,tv] w (zXg (zOf subs tops) w):=by
 have SI:=zz (zRh subs sv hs h1);have TI:=zz (fun w' (h:Fr (fun _=>False) w w')=>zRi tops tv (ht.old h) h2);have SH:=zz hs;have TH:=zz ht;have KH:=zz hk;have KL:=zz hkl;obtain ⟨sa,sc,rfl,-⟩:=id hs;obtain ⟨ta,tc,rfl,-⟩:=id ht;clear hs ht hk hkl;go_enter Tryz.func203,Tryz.ntmps203
 by_cases ha:subs.length≤20
 case neg=>
  have HA:=zz ha;go_wp2_with fail
  go_ret
  exact ⟨.inr ⟨rfl,fun h=>HA.out h.sl⟩,Fr.same _⟩
 by_cases hb:tops.length≤20
 case neg=>
  have HB:=zz hb;go_wp2_with fail
  go_ret
  exact ⟨.inr ⟨rfl,fun h=>HB.out h.tl⟩,Fr.same _⟩
 go_wp2_with fail
 refine SI.out.mono ?_;rintro e w1 ⟨⟨c1,rfl,p1,n1⟩,f1⟩;have F1:=zz f1;have T1:=zz (TI.out _ f1);have P1:=zz p1;have N1:=zz n1;clear f1 p1 n1 SI TI;cases c1 with
 | false=>
  go_wp2_with fail
  go_ret
  exact ⟨.inr ⟨rfl,fun h=>N1.out trivial h.si⟩,F1.out⟩
 | true=>
  go_wp2_with fail
  refine T1.out.mono ?_;rintro e w2 ⟨⟨c2,rfl,p2,n2⟩,f2⟩;have F2:=zz (F1.out.tr f2);have P2:=zz p2;have N2:=zz n2;clear f2 p2 n2 T1;cases c2 with
  | false=>
   go_wp2_with fail
   go_ret
   exact ⟨.inr ⟨rfl,fun h=>N2.out trivial h.ti⟩,F2.out⟩
  | true=>
   go_wp2_with fail
   go_loopw [27] (fun i wr=>∃k:Nat,i=.int .i64 k∧k≤subs.length∧(∀(j:Nat) (z:yM),j < k→subs[j]?=some z→SubOk z)∧Fr (fun _=>False) w wr) (fun i _=>subs.length - (intOf i).toNat)
   case atStart=>exact ⟨0,rfl,Nat.zero_le _,fun j z h=>absurd h (Nat.not_lt_zero _),F2.out⟩
   case round=>
    obtain ⟨k,rfl,hk,hall,hF⟩:=hrel;have FF:=zz hF;have AL:=zz hall;clear hF hall;rcases Nat.lt_or_ge k subs.length with hlt | hge
    ·obtain ⟨z,hz⟩:=zH hlt
     obtain ⟨oa',cap',hsl,hc⟩:=SH.out.old FF.out;injection hsl with e1 e2 e3
     subst e1 e3;clear e2;obtain ⟨g,rfl,c0,c1⟩:=hc k z hz;have hzm:=List.mem_of_getElem? hz;have kz:=(KH.out z hzm).old FF.out;have HZ:=zz hz;have htn:=strs_tn kz;have RW:=zz (fun w' (h:Fr (fun _=>False) wr w')=>zRg z.tl _ (kz.old h) (KL.out z hzm));have fa:=(Fr.same wr).alloc (.cells #[.int .i64 z.id,.slice z.ta z.tn z.tc] 314);have xa:=zC wr (.cells #[.int .i64 z.id,.slice z.ta z.tn z.tc] 314);have dx:=fun j=>zB xa j
     have RX:=zz (RW.out _ fa);have FA:=zz (FF.out.tr fa);have ZM:=zz hzm;have TN:=zz htn;clear hc hz kz xa fa RW hzm htn;by_cases hi0:0≤z.id
     case neg=>
      have HH:=zz hi0;go_wp2_with fail
      go_ret
      exact ⟨.inr ⟨rfl,fun h=>by have:=(h.so z ZM.out).1; have:=HH.out; omega⟩,FA.out⟩
     by_cases hi1:z.id≤1073741824
     case neg=>
      have HH:=zz hi1;go_wp2_with fail
      go_ret
      exact ⟨.inr ⟨rfl,fun h=>by have:=(h.so z ZM.out).2.1; have:=HH.out; omega⟩,FA.out⟩
     by_cases hi2:z.tn≤20
     case neg=>
      have HH:=zz hi2;go_wp2_with fail
      go_ret
      exact ⟨.inr ⟨rfl,fun h=>HH.out (by rw [TN.out]; exact (h.so z ZM.out).2.2.1)⟩,FA.out⟩
     have I0:=zz hi0;have I1:=zz hi1;have I2:=zz hi2;go_wp2_with fail
     refine RX.out.mono ?_;rintro e w3 ⟨⟨c3,rfl,p3,n3⟩,f3⟩;have F3:=zz (FA.out.tr f3);have P3:=zz p3;have N3:=zz n3;clear f3 p3 n3 RX;cases c3 with
     | false=>
      go_wp2_with fail
      go_ret
      exact ⟨.inr ⟨rfl,fun h=>N3.out trivial (h.so z ZM.out).2.2.2⟩,F3.out⟩
     | true=>
      go_wp2_with fail
      go_roundw
      case rel=>exact ⟨k+1,by go_num,by omega,fun j y hj hy=>by
       rcases Nat.lt_or_ge j k with h9 | h9
       ·exact AL.out j y h9 hy
       ·obtain rfl:j=k:=by omega
        obtain rfl:=Option.some.inj (HZ.out.symm.trans hy);exact ⟨I0.out,I1.out,by rw [←TN.out]; exact I2.out,P3.out trivial⟩,F3.out⟩
      case measure=>simp [intOf]; omega
    ·obtain rfl:k=subs.length:=by omega
     have SO:=zz (show ∀z∈subs,SubOk z from fun z hz=>by obtain ⟨j,hj⟩:=List.mem_iff_getElem?.1 hz; exact AL.out j z (List.getElem?_eq_some_iff.1 hj).1 hj);go_wp2_with fail
     go_loopw [54] (fun i wr=>∃k:Nat,i=.int .i64 k∧k≤tops.length∧(∀(j:Nat) (z:ByteArray × Int),j < k→tops[j]?=some z→TopOk z)∧Fr (fun _=>False) w wr) (fun i _=>tops.length - (intOf i).toNat)
     case atStart=>exact ⟨0,rfl,Nat.zero_le _,fun j z h=>absurd h (Nat.not_lt_zero _),FF.out⟩
     case round=>
      obtain ⟨k,rfl,hk,hall,hF⟩:=hrel;have FG:=zz hF;have AT:=zz hall;clear hF hall;rcases Nat.lt_or_ge k tops.length with hlt | hge
      ·obtain ⟨z,hz⟩:=zH hlt
       obtain ⟨oa',cap',hsl,hc⟩:=TH.out.old FG.out;injection hsl with e1 e2 e3
       subst e1 e3;clear e2;obtain ⟨g,rfl,c0,c1⟩:=hc k z hz;have HZ:=zz hz;have ZM:=zz (List.mem_of_getElem? hz);have FA:=zz (FG.out.tr ((Fr.same wr).alloc (.cells #[.string z.1,.int .i64 z.2] 160)));clear hc hz;by_cases hi0:1≤z.2
       case neg=>
        have HH:=zz hi0;go_wp2_with fail
        go_ret
        exact ⟨.inr ⟨rfl,fun h=>by have:=(h.to z ZM.out).1; have:=HH.out; omega⟩,FA.out⟩
       by_cases hi1:z.2≤16
       case neg=>
        have HH:=zz hi1;go_wp2_with fail
        go_ret
        exact ⟨.inr ⟨rfl,fun h=>by have:=(h.to z ZM.out).2; have:=HH.out; omega⟩,FA.out⟩
       have I0:=zz hi0;have I1:=zz hi1;go_wp2_with fail
       go_roundw
       case rel=>exact ⟨k+1,by go_num,by omega,fun j y hj hy=>by
        rcases Nat.lt_or_ge j k with h9 | h9
        ·exact AT.out j y h9 hy
        ·obtain rfl:j=k:=by omega
         obtain rfl:=Option.some.inj (HZ.out.symm.trans hy);exact ⟨I0.out,I1.out⟩,FA.out⟩
       case measure=>simp [intOf]; omega
      ·obtain rfl:k=tops.length:=by omega
       have HA:=zz ha;have HB:=zz hb;go_wp2_with fail
       go_ret
       exact ⟨.inl ⟨rfl,HA.out,HB.out,P1.out trivial,P2.out trivial,SO.out,fun z hz=>by obtain ⟨j,hj⟩:=List.mem_iff_getElem?.1 hz; exact AT.out j z (List.getElem?_eq_some_iff.1 hj).1 hj⟩,FG.out⟩
end
section
variable {w w':World} {S K:Nat→Prop}
def vV (x:ByteArray):List Value:=[.string x]
def jA (x:ByteArray × Int):List Value:=[.string x.1,.int .i64 x.2]
theorem zLr (x:ByteArray):(vV x).length=1:=rfl
theorem vN (x:ByteArray × Int):(jA x).length=2:=rfl
theorem info9c:(Tryz.prog.info? 9).map (fun i=>(i.zero,i.size,i.bytes))=some (some (.string ByteArray.empty),1,16):=by kernel_rfl
theorem zTs:(Tryz.prog.info? 169).map (fun i=>(i.zero,i.size,i.bytes))=some (some (.agg #[.string ByteArray.empty,.int .i64 0]),2,24):=by kernel_rfl
theorem strC_one (l:List ByteArray):∀u∈l.flatMap vV,u.oneCell'=true:=by
 intro u hu;obtain ⟨x,-,hx⟩:=List.mem_flatMap.1 hu;simp only [vV,List.mem_cons,List.not_mem_nil,or_false] at hx;rcases hx with rfl; rfl
theorem zXh (l:List (ByteArray × Int)):∀u∈l.flatMap jA,u.oneCell'=true:=by
 intro u hu;obtain ⟨x,-,hx⟩:=List.mem_flatMap.1 hu;simp only [jA,List.mem_cons,List.not_mem_nil,or_false] at hx;rcases hx with rfl | rfl <;> rfl
theorem memL_one (l:List zN):∀u∈l.flatMap jn,u.oneCell'=true:=by
 intro u hu;obtain ⟨x,-,hx⟩:=List.mem_flatMap.1 hu;simp only [jn,List.mem_cons,List.not_mem_nil,or_false] at hx;rcases hx with rfl | rfl | rfl | rfl | rfl <;> rfl
theorem zRj {a:Addr} {n cap:Nat} {l:List ByteArray} (h:xS K w (.slice (some a) n cap) l):n=l.length∧∀j u,(l.flatMap vV)[j]?=some u→w.cell? (a.add j)=some u:=by
 obtain ⟨oa,cap',hv,-,h⟩:=h;injection hv with e1 e2 e3
 subst e1;refine ⟨e2,fun j u hu=>?_⟩;obtain ⟨x,hx,hu⟩:=zKu vV 1 (by omega) zLr hu;rw [Nat.div_one] at hx;rw [Nat.mod_one] at hu;obtain ⟨a',ha,hK,c0,-⟩:=h _ x hx;injection ha with ha
 subst ha;simp only [vV,List.getElem?_cons_zero,Option.some.injEq] at hu;subst hu;exact c0
theorem zOg {a:Addr} {n cap:Nat} {l:List (ByteArray × Int)} (h:xL K w (.slice (some a) n cap) l):n=l.length∧∀j u,(l.flatMap jA)[j]?=some u→w.cell? (a.add j)=some u:=by
 obtain ⟨oa,cap',hv,-,h⟩:=h;injection hv with e1 e2 e3
 subst e1;refine ⟨e2,fun j u hu=>?_⟩;obtain ⟨x,hx,hu⟩:=zKu jA 2 (by omega) vN hu;obtain ⟨a',ha,hK,c0,c1,-⟩:=h _ x hx;injection ha with ha
 subst ha;have hd:=Nat.div_add_mod j 2;rcases Nat.mod_two_eq_zero_or_one j with h0 | h1
 ·rw [h0] at hu hd
  rw [show j=j / 2 * 2 by omega];simp only [jA,List.getElem?_cons_zero,Option.some.injEq] at hu;subst hu;exact c0
 ·rw [h1] at hu hd
  rw [show j=j / 2 * 2+1 by omega,zSu _ _ _ (by omega)];simp only [jA,List.getElem?_cons_succ,List.getElem?_cons_zero,Option.some.injEq] at hu;subst hu;exact c1
theorem zOh {B:Nat} {v:Value} {n:Nat} {l:List ByteArray} (h:w.ownsRow B 9 1 v n (l.flatMap vV)) (hn:n=l.length) (hs:∀x∈l,x.size≤150000000000000) (hm:l.length≤maxLen):xS (fun b=>B≤b∧v.ownBlock=some b) w v l:=by
 obtain ⟨oa,cap,hv,hc⟩:=xz h;subst hn;refine ⟨oa,cap,hv,hm,fun k x hx=>?_⟩;obtain ⟨g,rfl,ho,hB,hc⟩:=hc (by have:=(List.getElem?_eq_some_iff.1 hx).1; omega);have g0:=xB vV 1 zLr hx (show 0 < 1 by omega);refine ⟨_,rfl,⟨hB,ho⟩,?_,hs x (List.mem_of_getElem? hx)⟩;rw [zi]; exact hc _ _ (by simp only [Nat.mul_one,Nat.add_zero] at g0; exact g0.trans rfl)
theorem kM {B:Nat} {v:Value} {n:Nat} {l:List (ByteArray × Int)} (h:w.ownsRow B 169 2 v n (l.flatMap jA)) (hn:n=l.length) (hs:∀x∈l,x.1.size≤150000000000000) (hm:l.length≤maxLen):xL (fun b=>B≤b∧v.ownBlock=some b) w v l:=by
 obtain ⟨oa,cap,hv,hc⟩:=xz h;subst hn;refine ⟨oa,cap,hv,hm,fun k x hx=>?_⟩;obtain ⟨g,rfl,ho,hB,hc⟩:=hc (by have:=(List.getElem?_eq_some_iff.1 hx).1; omega);have g0:=xB jA 2 vN hx (show 0 < 2 by omega);have g1:=xB jA 2 vN hx (show 1 < 2 by omega);refine ⟨_,rfl,⟨hB,ho⟩,?_,?_,hs x (List.mem_of_getElem? hx)⟩
 ·rw [zi]; exact hc _ _ g0
 ·rw [jE]; exact hc _ _ g1
theorem zXi {n cap:Nat} {l:List ByteArray} (h:xS K w (.slice none n cap) l):l=[]∧n=0:=by
 obtain ⟨oa,cap',hv,-,h⟩:=h;injection hv with e1 e2 e3
 subst e1;cases l with
 | nil=>exact ⟨rfl,by simpa using e2⟩
 | cons x l=>
  obtain ⟨a,ha,-⟩:=h 0 x rfl;cases ha
theorem zRk {n cap:Nat} {l:List (ByteArray × Int)} (h:xL K w (.slice none n cap) l):l=[]∧n=0:=by
 obtain ⟨oa,cap',hv,-,h⟩:=h;injection hv with e1 e2 e3
 subst e1;cases l with
 | nil=>exact ⟨rfl,by simpa using e2⟩
 | cons x l=>
  obtain ⟨a,ha,-⟩:=h 0 x rfl;cases ha
theorem xS.sz {v:Value} {l:List ByteArray} (h:xS K w v l):(∀x∈l,x.size≤150000000000000)∧l.length≤maxLen:=by
 obtain ⟨oa,cap',hv,hm,h⟩:=h;refine ⟨fun x hx=>?_,hm⟩;obtain ⟨i,hi⟩:=List.mem_iff_getElem?.1 hx;obtain ⟨a,-,-,-,h9⟩:=h i x hi;exact h9
theorem xL.sz {v:Value} {l:List (ByteArray × Int)} (h:xL K w v l):(∀x∈l,x.1.size≤150000000000000)∧l.length≤maxLen:=by
 obtain ⟨oa,cap',hv,hm,h⟩:=h;refine ⟨fun x hx=>?_,hm⟩;obtain ⟨i,hi⟩:=List.mem_iff_getElem?.1 hx;obtain ⟨a,-,-,-,-,h9⟩:=h i x hi;exact h9
def zRl (w:World) (l:List (ByteArray)) (e:Ending) (w':World):Prop:=∃v,e=.returned v∧xS (fun b=>w.heap.size≤b) w' v l∧Fr (fun _=>False) w w'
theorem uO (l:List (ByteArray)) (v:Value) (w:World) (h:xS K w v l) (hl:l.length≤1000):Calls Tryz.prog 206 #[v] w (zRl w l):=by
 obtain ⟨i,hi,hz,h1,h2⟩:=info_parts info9c;have hh:=h;have SZ:=zz h.sz;obtain ⟨oa,cap,rfl,-⟩:=hh;cases oa with
 | none=>
  obtain ⟨rfl,-⟩:=zXi h;have hnil:∀w,(binOp .eql 39 (.slice none 0 cap) (.slice none 0 0)).run Tryz.prog w=.ok (.bool true) w:=fun w=>Lib.run_eql_slice_nil (P:=Tryz.prog) w 39 9 none 0 cap 0 0 Tryz.underlying39
  clear h;go_enter Tryz.func206,Tryz.ntmps206
  go_wp2_with fail
  go_ret
  exact ⟨_,rfl,xS.nil,Fr.same _⟩
 | some a=>
  have hnil:∀w,(binOp .eql 39 (.slice (some a) l.length cap) (.slice none 0 0)).run Tryz.prog w=.ok (.bool false) w:=fun w=>Lib.run_eql_slice_nil (P:=Tryz.prog) w 39 9 (some a) l.length cap 0 0 Tryz.underlying39
  have H:=zz h;obtain ⟨-,hcells⟩:=zRj h;have HC:=zz hcells;have hown:(w.alloc (.cells #[] 9)).ownsRow w.heap.size 9 1 (.slice (some ⟨w.heap.size,0,none⟩) 0 0) 0 []:=
   ⟨rfl,.inr ⟨w.heap.size,0,#[],rfl,Nat.le_refl _,zC _ _,Nat.le_refl _,Nat.zero_le _,rfl,rfl⟩⟩
  have HO:=zz hown;have hf:=(Fr.same w).alloc (.cells #[] 9);have HF:=zz hf;clear h hcells hown hf;go_enter Tryz.func206,Tryz.ntmps206
  go_wp2_with (at_builtin; refine zP _ rfl (.tmp 5) (.tmp 6) 39 rfl w.heap.size 9 i _ 1 16 Tryz.underlying39 hi hz h1 h2 rfl (by decide) _ 0 [] rfl HO.out a l.length cap (l.flatMap vV) rfl (uI vV 1 zLr l) ?c1 (strC_one l) ?c3 ?c4 HF.out.size ?_)
  case c1=>exact fun j u hj=>HF.out.cel (HC.out j u hj)
  case c3=>unfold maxLen; omega
  case c4=>omega
  intro v' w' ho hg hb;have hfr:Fr (fun _=>False) w w':=HF.out.grown hg fun k hk=>.inr (by simp [Value.ownBlock] at hk; omega)
  have hr:=zOh (l:=l) (by simpa using ho) rfl SZ.out.1 SZ.out.2;have HR:=zz hr;have HF2:=zz hfr;clear ho hg hb hfr hr;go_wp2_with fail
  go_ret
  exact ⟨_,rfl,HR.out.mono fun b hb _=>hb.1,HF2.out⟩
def zRm (w:World) (l:List (ByteArray × Int)) (e:Ending) (w':World):Prop:=∃v,e=.returned v∧xL (fun b=>w.heap.size≤b) w' v l∧Fr (fun _=>False) w w'
theorem zAc (l:List (ByteArray × Int)) (v:Value) (w:World) (h:xL K w v l) (hl:l.length≤1000):Calls Tryz.prog 209 #[v] w (zRm w l):=by
 obtain ⟨i,hi,hz,h1,h2⟩:=info_parts zTs;have hh:=h;have SZ:=zz h.sz;obtain ⟨oa,cap,rfl,-⟩:=hh;cases oa with
 | none=>
  obtain ⟨rfl,-⟩:=zRk h;have hnil:∀w,(binOp .eql 29 (.slice none 0 cap) (.slice none 0 0)).run Tryz.prog w=.ok (.bool true) w:=fun w=>Lib.run_eql_slice_nil (P:=Tryz.prog) w 29 169 none 0 cap 0 0 Tryz.underlying29
  clear h;go_enter Tryz.func209,Tryz.ntmps209
  go_wp2_with fail
  go_ret
  exact ⟨_,rfl,xL.nil,Fr.same _⟩
 | some a=>
  have hnil:∀w,(binOp .eql 29 (.slice (some a) l.length cap) (.slice none 0 0)).run Tryz.prog w=.ok (.bool false) w:=fun w=>Lib.run_eql_slice_nil (P:=Tryz.prog) w 29 169 (some a) l.length cap 0 0 Tryz.underlying29
  have H:=zz h;obtain ⟨-,hcells⟩:=zOg h;have HC:=zz hcells;have hown:(w.alloc (.cells #[] 169)).ownsRow w.heap.size 169 2 (.slice (some ⟨w.heap.size,0,none⟩) 0 0) 0 []:=
   ⟨rfl,.inr ⟨w.heap.size,0,#[],rfl,Nat.le_refl _,zC _ _,Nat.le_refl _,Nat.zero_le _,rfl,rfl⟩⟩
  have HO:=zz hown;have hf:=(Fr.same w).alloc (.cells #[] 169);have HF:=zz hf;clear h hcells hown hf;go_enter Tryz.func209,Tryz.ntmps209
  go_wp2_with (at_builtin; refine zP _ rfl (.tmp 5) (.tmp 6) 29 rfl w.heap.size 169 i _ 2 24 Tryz.underlying29 hi hz h1 h2 rfl (by decide) _ 0 [] rfl HO.out a l.length cap (l.flatMap jA) rfl (uI jA 2 vN l) ?c1 (zXh l) ?c3 ?c4 HF.out.size ?_)
  case c1=>exact fun j u hj=>HF.out.cel (HC.out j u hj)
  case c3=>unfold maxLen; omega
  case c4=>omega
  intro v' w' ho hg hb;have hfr:Fr (fun _=>False) w w':=HF.out.grown hg fun k hk=>.inr (by simp [Value.ownBlock] at hk; omega)
  have hr:=kM (l:=l) (by simpa using ho) rfl SZ.out.1 SZ.out.2;have HR:=zz hr;have HF2:=zz hfr;clear ho hg hb hfr hr;go_wp2_with fail
  go_ret
  exact ⟨_,rfl,HR.out.mono fun b hb _=>hb.1,HF2.out⟩
end
section
variable {w w':World} {S K:Nat→Prop}
section
variable {ops:Array Oper} {rest:List Oper} {o:Oper} {a:Act} {Q:Exit→Act→World→Prop}
theorem zFp (w:World) (hgd:o.guard=none) (s x:Operand) (ho:o.op=.call { callee:=.builtin .append,args:=#[s,x],argTypes:=#[212,212] })
  (v:Value) (zs:List zN) (hs:a.eval s=v) (hown:zo w v zs) (g c:Nat) (hx:a.eval x=.slice (some ⟨g,0,none⟩) 1 c) (z:zN)
  (hcells:∀j,w.cell? ⟨g,j,none⟩=(jn z).toArray[j]?) (hlen:zs.length < 1000000) (hB:1≤w.heap.size)
  (h:∀v' w',zo w' v' (zs++ [z])→w.grownBy w' v.ownBlock→(v'.ownBlock=v.ownBlock∨v'.ownBlock=some w.heap.size)→wpList Tryz.prog ops Q rest (a.put o.dst v') w'):wpList Tryz.prog ops Q (o::rest) a w:=by
 obtain ⟨i,hi,hz,h1,h2⟩:=info_parts zTp;refine zP w hgd s x 212 ho 1 266 i _ 5 72 Tryz.underlying212 hi hz h1 h2 rfl (by decide) v zs.length (zs.flatMap jn) hs hown ⟨g,0,none⟩ 1 c (jn z) hx rfl ?_ ?_ (by unfold maxLen; omega) (by omega) hB fun v' w' h1 h2 h3=>h v' w' (by unfold zo; rw [List.length_append,List.flatMap_append]; simpa using h1) h2 h3
 ·intro j u hj
  rw [zi,hcells j]
  simpa using hj
 ·intro u hu
  simp only [jn,List.mem_cons,List.not_mem_nil,or_false] at hu;rcases hu with rfl | rfl | rfl | rfl | rfl <;> rfl
end
theorem vp {B B':Nat} {e:TypeId} {s n:Nat} {v:Value} {xs:List Value} (h:w.ownsRow B e s v n xs) (hb:B'≤B):w.ownsRow B' e s v n xs:=⟨h.1,h.2.imp id fun ⟨g,cap,cur,e,h1,r⟩=>⟨g,cap,cur,e,Nat.le_trans hb h1,r⟩⟩
def McPost (w:World) (zs:List zN) (e:Ending) (w':World):Prop:=∃v,e=.returned v∧zo w' v zs∧(∀k,v.ownBlock=some k→w.heap.size≤k)∧Fr (fun _=>False) w w'
theorem zOi (zs:List zN) (v:Value) (w:World) (h:zo w v zs) (hl:zs.length≤1000) (hw:1≤w.heap.size):Calls Tryz.prog 208 #[v] w (McPost w zs):=by
 obtain ⟨i,hi,hz,h1,h2⟩:=info_parts zTp;obtain ⟨oa,cap,hv,hc⟩:=xz h;subst hv;cases oa with
 | none=>
  obtain rfl:zs=[]:=by
   cases zs with
   | nil=>rfl
   | cons x l=>obtain ⟨g,hg,-⟩:=hc (by simp); cases hg
  have hnil:∀w,(binOp .eql 212 (.slice none 0 cap) (.slice none 0 0)).run Tryz.prog w=.ok (.bool true) w:=fun w=>Lib.run_eql_slice_nil (P:=Tryz.prog) w 212 266 none 0 cap 0 0 Tryz.underlying212
  clear h hc;go_enter Tryz.func208,Tryz.ntmps208
  go_wp2_with fail
  go_ret
  exact ⟨.slice none 0 0,rfl,World.ownsRow_nil _ _ _ _,fun k hk=>(by simp [Value.ownBlock] at hk),Fr.same _⟩
 | some a=>
  have hnil:∀w,(binOp .eql 212 (.slice (some a) zs.length cap) (.slice none 0 0)).run Tryz.prog w=.ok (.bool false) w:=fun w=>Lib.run_eql_slice_nil (P:=Tryz.prog) w 212 266 (some a) zs.length cap 0 0 Tryz.underlying212
  have hcells:∀j u,(zs.flatMap jn)[j]?=some u→w.cell? (a.add j)=some u:=fun j u hu=>by
   have hlt:=(List.getElem?_eq_some_iff.1 hu).1;rw [uI jn 5 uv] at hlt;obtain ⟨g,hg,-,-,hc2⟩:=hc (by omega);injection hg with hg
   subst hg;rw [zi];exact hc2 j u hu
  have HC:=zz hcells;have hown:(w.alloc (.cells #[] 266)).ownsRow w.heap.size 266 5 (.slice (some ⟨w.heap.size,0,none⟩) 0 0) 0 []:=
   ⟨rfl,.inr ⟨w.heap.size,0,#[],rfl,Nat.le_refl _,zC _ _,Nat.le_refl _,Nat.zero_le _,rfl,rfl⟩⟩
  have HO:=zz hown;have hf:=(Fr.same w).alloc (.cells #[] 266);have HF:=zz hf;clear h hcells hown hf hc;go_enter Tryz.func208,Tryz.ntmps208
  go_wp2_with (at_builtin; refine zP _ rfl (.tmp 5) (.tmp 6) 212 rfl w.heap.size 266 i _ 5 72 Tryz.underlying212 hi hz h1 h2 rfl (by decide) _ 0 [] rfl HO.out a zs.length cap (zs.flatMap jn) rfl (uI jn 5 uv zs) ?c1 (memL_one zs) ?c3 ?c4 HF.out.size ?_)
  case c1=>exact fun j u hj=>HF.out.cel (HC.out j u hj)
  case c3=>unfold maxLen; omega
  case c4=>omega
  intro v' w' ho hg hb;have hfr:Fr (fun _=>False) w w':=HF.out.grown hg fun k hk=>.inr (by simp [Value.ownBlock] at hk; omega)
  have ho2:w'.ownsRow w.heap.size 266 5 v' zs.length (zs.flatMap jn):=by simpa using ho
  have HR:=zz (And.intro (show zo w' v' zs from vp ho2 hw) fun (k:Nat) (hk:v'.ownBlock=some k)=>(zK ho2 hk).1);have HF2:=zz hfr;clear ho hg hb hfr ho2;go_wp2_with fail
  go_ret
  exact ⟨_,rfl,HR.out.1,HR.out.2,HF2.out⟩
end
end Go.Proofs.YtfdhofabgdkkkaaGreatDoor

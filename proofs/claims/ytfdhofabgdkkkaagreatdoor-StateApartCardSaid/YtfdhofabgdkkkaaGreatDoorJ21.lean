/- A part of the proof that what the machine is told keeps its bounds. -/
import Derived.Test.YtfdhofabgdkkkaaGreatDoorJ20
import Derived.Lib.AppendStr
set_option maxHeartbeats 128000000
set_option maxRecDepth 100000
namespace Go.Proofs.YtfdhofabgdkkkaaGreatDoor
open Lib renaming hid→zz
open Go.RowKit Go.Fm Go.BigFrame Go.Shelf Go.Maps
set_option linter.unusedVariables false
set_option linter.unusedSimpArgs false
inductive Fst where
 | nil:Fst
 | cons (op:Int) (nm vl:ByteArray) (ks rest:Fst):Fst
def Fst.len:Fst→Nat
 | .nil=>0
 | .cons _ _ _ _ r=>r.len+1
def Fst.sz:Fst→Nat
 | .nil=>0
 | .cons _ _ _ ks r=>ks.sz+r.sz+1
def Fst.drop:Fst→Nat→Fst
 | F,0=>F
 | .nil,_+1=>.nil
 | .cons _ _ _ _ r,k+1=>r.drop k
theorem Fst.drop_nil:∀k,Fst.nil.drop k=.nil
 | 0=>rfl
 | _+1=>rfl
theorem Fst.drop_zero:∀(F:Fst),F.drop 0=F
 | .nil=>rfl
 | .cons _ _ _ _ _=>rfl
theorem Fst.drop_end:∀(F:Fst),F.drop F.len=.nil
 | .nil=>rfl
 | .cons _ _ _ _ r=>r.drop_end
theorem Fst.drop_at:∀(F:Fst) (k:Nat),k < F.len→∃op nm vl ks,F.drop k=.cons op nm vl ks (F.drop (k+1))∧ks.sz < F.sz
 | .nil,k,h=>by simp [Fst.len] at h
 | .cons op nm vl ks r,0,h=>by
  refine ⟨op,nm,vl,ks,?_,by simp [Fst.sz]; omega⟩;cases r <;> rfl
 | .cons op nm vl ks r,k+1,h=>by
  obtain ⟨op',nm',vl',ks',h1,h2⟩:=r.drop_at k (by simp [Fst.len] at h; omega);exact ⟨op',nm',vl',ks',h1,by simp [Fst.sz]; omega⟩
section
variable {w w':World} {S:Nat→Prop} {K:Nat→Prop}
structure zGz (w:World) (a:Addr) (op:Int) (nm vl:ByteArray) (kv:Value):Prop where
 c0:w.cell? a=some (.int .i64 op)
 c1:w.cell? ⟨a.block,a.off+1,none⟩=some (.string nm)
 c2:w.cell? ⟨a.block,a.off+2,none⟩=some (.string vl)
 c3:w.cell? ⟨a.block,a.off+3,none⟩=some kv
def zBt (K:Nat→Prop) (w:World):Fst→Addr→Nat→Prop
 | .nil,_,_=>True
 | .cons op nm vl ks r,a,i=>(K a.block∧∃oa cap,zGz w (a.add (i * 4)) op nm vl (.slice oa ks.len cap)∧ks.len≤maxLen∧(ks.len=0∨∃b,oa=some b∧zBt K w ks b 0))∧zBt K w r a (i+1)
def xV (K:Nat→Prop) (w:World) (v:Value) (ks:Fst):Prop:=∃oa cap,v=.slice oa ks.len cap∧ks.len≤maxLen∧(ks.len=0∨∃b,oa=some b∧zBt K w ks b 0)
theorem zBt.fr:∀ {F:Fst} {a:Addr} {i:Nat},zBt K w F a i→Fr S w w'→(∀i,K i→¬S i)→zBt K w' F a i
 | .nil,_,_,_,_,_=>trivial
 | .cons op nm vl ks r,a,i,⟨⟨hk,oa,cap,hp,hml,hks⟩,hr⟩,hf,hS=>by
  have hb:∀j,(a.add j).block=a.block:=fun j=>by unfold Addr.add; split <;> rfl
  refine ⟨⟨hk,oa,cap,⟨?_,?_,?_,?_⟩,hml,?_⟩,zBt.fr hr hf hS⟩
  ·exact hf.cell hp.c0 (by rw [hb]; exact hS _ hk)
  ·exact hf.cell hp.c1 (by rw [hb]; exact hS _ hk)
  ·exact hf.cell hp.c2 (by rw [hb]; exact hS _ hk)
  ·exact hf.cell hp.c3 (by rw [hb]; exact hS _ hk)
  ·rcases hks with h | ⟨b,e,h⟩
   ·exact .inl h
   ·exact .inr ⟨b,e,zBt.fr h hf hS⟩
theorem xV.fr {v:Value} {ks:Fst} (h:xV K w v ks) (hf:Fr S w w') (hS:∀i,K i→¬S i):xV K w' v ks:=by
 obtain ⟨oa,cap,rfl,hml,h⟩:=h;refine ⟨oa,cap,rfl,hml,h.imp id ?_⟩;rintro ⟨b,e,h⟩;exact ⟨b,e,h.fr hf hS⟩
theorem xV.len {v:Value} {ks:Fst} (h:xV K w v ks):ks.len≤maxLen:=by obtain ⟨oa,cap,-,h,-⟩:=h; exact h
theorem xV.old {v:Value} {ks:Fst} (h:xV K w v ks) (hf:Fr (fun _=>False) w w'):xV K w' v ks:=h.fr hf fun _ _ h=>h
theorem zBt.drop:∀ {F:Fst} {a:Addr} {i:Nat} (k:Nat),zBt K w F a i→zBt K w (F.drop k) a (i+k)
 | F,a,i,0,h=>by rw [Fst.drop_zero]; exact h
 | .nil,a,i,k+1,h=>trivial
 | .cons op nm vl ks r,a,i,k+1,h=>by
  have:=zBt.drop k h.2
  rw [show i+1+k=i+(k+1) by omega] at this;exact this
theorem xV.at {oa:Option Addr} {n cap:Nat} {ks:Fst} {k:Nat} {op:Int} {nm vl:ByteArray} {xs r:Fst} (h:xV K w (.slice oa n cap) ks) (hd:ks.drop k=.cons op nm vl xs r) (hk:k < ks.len):
  ∃a kv,oa=some a∧K a.block∧zGz w (a.add (k * 4)) op nm vl kv∧xV K w kv xs:=by
 obtain ⟨oa',cap',e,-,h⟩:=h;injection e with e1 e2 e3
 subst e1;rcases h with h | ⟨b,rfl,h⟩
 ·omega
 ·have:=zBt.drop k h
  rw [hd] at this;obtain ⟨⟨h1,oa2,cap2,h2,hml,h3⟩,-⟩:=this;rw [show 0+k=k by omega] at h2;exact ⟨b,_,rfl,h1,h2,oa2,cap2,rfl,hml,h3⟩
def exV (op:Int) (nm vl:ByteArray) (kv:Value):Value:=.agg #[.int .i64 op,.string nm,.string vl,kv]
def uV:Fst→Nat→Nat
 | .nil,n=>n
 | .cons _ _ _ ks r,n=>if 100≤n then n else uV r (uV ks (n+1))
theorem zJm (op:Int) (nm vl:ByteArray) (ks r:Fst) (n:Nat):uV (.cons op nm vl ks r) n=if 100≤n then n else uV r (uV ks (n+1)):=rfl
theorem zFu:∀(F:Fst) (n:Nat),n≤100→uV F n≤100
 | .nil,n,h=>h
 | .cons _ _ _ ks r,n,h=>by
  unfold uV;split
  ·exact h
  ·exact zFu r _ (zFu ks _ (by omega))
theorem zFv:∀(F:Fst) (n:Nat),n≤uV F n
 | .nil,n=>Nat.le_refl _
 | .cons _ _ _ ks r,n=>by
  unfold uV;split
  ·exact Nat.le_refl _
  ·exact Nat.le_trans (Nat.le_trans (Nat.le_succ n) (zFv ks _)) (zFv r _)
theorem capF_top:∀(F:Fst) (n:Nat),100≤n→uV F n=n
 | .nil,n,h=>rfl
 | .cons _ _ _ ks r,n,h=>by unfold uV; rw [if_pos h]
structure zQs (w:World) (nb wb:Nat) (n:Nat):Prop where
 hn:w.heap[nb]?=some (.cells #[.int .i64 (n:Int)] 3 (0,0))
 hw:w.heap[wb]?=some (.cells #[.func (.func 91) #[] #[.pointer (some ⟨nb,0,none⟩),.pointer (some ⟨wb,0,none⟩)]] 185 (0,0))
 ne:wb≠nb
theorem zQs.old {nb wb n:Nat} (h:zQs w nb wb n) (hf:Fr (fun _=>False) w w'):zQs w' nb wb n:=⟨blk h.hn hf fun h=>h,blk h.hw hf fun h=>h,h.ne⟩
def SizePost (w:World) (nb wb:Nat) (ks:Fst) (n:Nat) (e:Ending) (w':World):Prop:=
 e=.returned (.tuple #[])∧zQs w' nb wb (uV ks (n+1))∧Fr (fun i=>i=nb) w w'
theorem zQt (nb wb:Nat) (hK:¬K nb) (m:Nat):∀(ks:Fst) (op:Int) (nm vl:ByteArray) (kv:Value) (n:Nat) (w:World),ks.sz < m→n≤99→xV K w kv ks→zQs w nb wb n→
  Calls Tryz.prog 91 #[.agg #[.int .i64 op,.string nm,.string vl,kv],.pointer (some ⟨nb,0,none⟩),.pointer (some ⟨wb,0,none⟩)] w (SizePost w nb wb ks n):=by
 induction m with
 | zero=>intro ks op nm vl kv n w h; omega
 | succ m ih=>
  intro ks op nm vl kv n w hm hn hk hc;have hnb:=zA hc.hn;have hwb:=zA hc.hw;have dn:=zB ((zF (.cells #[.int .i64 op,.string nm,.string vl,kv] 38) hnb).trans hc.hn) 0;have zn:=zd ((zF (.cells #[.int .i64 op,.string nm,.string vl,kv] 38) hnb).trans hc.hn) 0;have f0:=(Fr.refl (fun i=>i=nb) w).setCell (p:=⟨nb,0,none⟩) (.inl rfl) (.int .i64 ((n:Int)+1));have C0:zQs (w.setCell ⟨nb,0,none⟩ (.int .i64 ((n:Int)+1))) nb wb (n+1):=⟨(zE hc.hn _).trans rfl,(f0.block _ hwb hc.ne).trans hc.hw,hc.ne⟩;have fa:=(Fr.same (w.setCell ⟨nb,0,none⟩ (.int .i64 ((n:Int)+1)))).alloc (.cells #[.int .i64 op,.string nm,.string vl,kv] 38);have CC:=zz (C0.old fa);have F2:=zz (f0.trans fa fun _ h=>h.elim);have KK:=zz (hk.fr F2.out fun i hi e=>hK (e ▸ hi));have hk0:=hk;clear f0 C0 fa hc hk;have KW:=zz hk0;clear hk0;obtain ⟨oa,cap,rfl,-⟩:=id KK.out;clear KK;go_enter Tryz.func91,Tryz.ntmps91
  go_wp2_with fail
  generalize ((w.setCell ⟨nb,0,none⟩ (.int .i64 ((n:Int)+1))).alloc (.cells #[.int .i64 op,.string nm,.string vl,.slice oa ks.len cap] 38))=w2 at *;clear dn zn;go_loopw [11] (fun i wr=>∃(k n':Nat),i=.int .i64 k∧k≤ks.len∧n+1+k≤n'∧n'≤100∧uV (ks.drop k) n'=uV ks (n+1)∧zQs wr nb wb n'∧Fr (fun i=>i=nb) w wr) (fun i _=>ks.len - (intOf i).toNat)
  case atStart=>exact ⟨0,n+1,rfl,Nat.zero_le _,by omega,by omega,by rw [Fst.drop_zero],CC.out,F2.out⟩
  case round=>
   obtain ⟨k,n',rfl,hk,hn1,hn2,hcap,hC,hF⟩:=hrel;have FF:=zz hF;have CR:=zz hC;have CAP:=zz hcap;clear hC hF hcap;rcases Nat.lt_or_ge k ks.len with hlt | hge
   ·obtain ⟨op1,nm1,vl1,xs,hd,hsz⟩:=ks.drop_at k hlt
    obtain ⟨a,kv1,rfl,hKa,hpt,hkid⟩:=(KW.out.fr FF.out fun i hi e=>hK (e ▸ hi)).at hd hlt;obtain ⟨c0,c1,c2,c3⟩:=hpt;obtain ⟨oa1,cap1,rfl,-⟩:=id hkid;have fa:=(Fr.same wr).alloc (.cells #[.int .i64 op1,.string nm1,.string vl1,.slice oa1 xs.len cap1] 38);have C1:=CR.out.old fa;have HD:=zz hd;have KD:=zz (hkid.old fa);have C1H:=zz C1;have FA:=zz (FF.out.trans fa fun _ h=>h.elim);have dx:=zD wr #[.int .i64 op1,.string nm1,.string vl1,.slice oa1 xs.len cap1] 38;have dn:=zB C1.hn 0;have dw:=zB C1.hw 0;clear hkid fa C1 hd CR FF;by_cases h100:n'=100
    ·subst h100
     go_wp2_with fail
     go_end0
     refine ⟨rfl,?_,FA.out⟩;have e:=CAP.out;rw [capF_top _ _ (by omega)] at e;rw [←e];exact C1H.out
    ·have hlt100:(n':Int) < 100:=by omega
     have IH:=zz (ih xs op1 nm1 vl1 _ n' _ (by omega) (by omega) KD.out C1H.out);go_wp2_with fail
     refine IH.out.mono ?_;rintro e w4 ⟨rfl,hC4,hF4⟩;have C4:=zz hC4;have F4:=zz (FA.out.trans hF4 fun _ h=>.inl h);clear hC4 hF4 IH dx dn dw;go_wp2_with fail
     go_roundw
     case rel=>
      have e:=CAP.out;rw [HD.out,zJm,if_neg (by omega)] at e;exact ⟨k+1,uV xs (n'+1),by go_num,by omega,by have:=zFv xs (n'+1); omega,zFu _ _ (by omega),e,C4.out,F4.out⟩
     case measure=>simp [intOf]; omega
   ·obtain rfl:k=ks.len:=by omega
    go_wp2_with fail
    go_end0
    refine ⟨rfl,?_,FF.out⟩;have e:=CAP.out;rw [Fst.drop_end] at e;rw [←e];exact CR.out
theorem zQu (op:Int) (nm vl:ByteArray) (kv:Value) (ks:Fst) (hk:xV K w kv ks) (ho:∀i,K i→i < w.heap.size):Calls Tryz.prog 46 #[exV op nm vl kv] w fun e w'=>e=.returned (.int .i64 ((uV ks 1:Nat):Int))∧Fr (fun _=>False) w w':=by
 obtain ⟨oa,cap,rfl,-⟩:=id hk;unfold exV;have f1:=(Fr.same w).alloc (.cells #[.int .i64 op,.string nm,.string vl,.slice oa ks.len cap] 38);have f2:=f1.alloc (.cells #[.int .i64 0] 3);have s1:(w.alloc (.cells #[.int .i64 op,.string nm,.string vl,.slice oa ks.len cap] 38)).heap.size=w.heap.size+1:=by simp
 have s2:((w.alloc (.cells #[.int .i64 op,.string nm,.string vl,.slice oa ks.len cap] 38)).alloc (.cells #[.int .i64 0] 3)).heap.size=w.heap.size+1+1:=by simp
 have x2:((w.alloc (.cells #[.int .i64 op,.string nm,.string vl,.slice oa ks.len cap] 38)).alloc (.cells #[.int .i64 0] 3)).heap[w.heap.size+1]?=some (.cells #[.int .i64 0] 3 (0,0)):=by rw [←s1]; exact zC _ _
 have f3:=f2.alloc (.cells #[.func (.func 91) #[] #[.pointer (some ⟨w.heap.size+1,0,none⟩),.pointer (some ⟨w.heap.size+1+1,0,none⟩)]] 185);have x3:=(zF (.cells #[.func (.func 91) #[] #[.pointer (some ⟨w.heap.size+1,0,none⟩),.pointer (some ⟨w.heap.size+1+1,0,none⟩)]] 185) (zA x2)).trans x2;have y3:=zC ((w.alloc (.cells #[.int .i64 op,.string nm,.string vl,.slice oa ks.len cap] 38)).alloc (.cells #[.int .i64 0] 3)) (.cells #[.func (.func 91) #[] #[.pointer (some ⟨w.heap.size+1,0,none⟩),.pointer (some ⟨w.heap.size+1+1,0,none⟩)]] 185);rw [s2] at y3;have CW:=zz (zQt (K:=K) (w.heap.size+1) (w.heap.size+1+1) (fun h=>by have:=ho _ h; omega) (ks.sz+1) ks op nm vl _ 0 _ (by omega) (by omega) (hk.old f3) ⟨x3,y3,by omega⟩);have F3:=zz f3;have LE:=zz (zFu ks 1 (by omega));clear f1 f2 s1 s2 x2 f3 x3 y3;go_enter Tryz.func46,Tryz.ntmps46
 go_wp2_with fail
 generalize (((w.alloc (.cells #[.int .i64 op,.string nm,.string vl,.slice oa ks.len cap] 38)).alloc (.cells #[.int .i64 0] 3)).alloc (.cells #[.func (.func 91) #[] #[.pointer (some ⟨w.heap.size+1,0,none⟩),.pointer (some ⟨w.heap.size+1+1,0,none⟩)]] 185))=w3 at *;refine CW.out.mono ?_;rintro e w4 ⟨rfl,h4,f4⟩;rw [Nat.zero_add] at h4;have c4:=zB h4.hn 0;have F4:=zz (((F3.out.mono (S':=fun i=>i=w.heap.size+1) fun _ h=>h.elim).trans f4 fun _ h=>.inl h).mono (S':=fun _=>False) fun i e=>.inr (by omega));have hle:((uV ks 1:Nat):Int)≤100:=by have:=LE.out; omega
 have HLE:=zz hle;clear f4 CW h4 hle;go_wp2_with fail
 go_ret
 refine ⟨?_,F4.out⟩
 show Ending.returned (Value.int .i64 (min _ _))=_
 rw [Int.min_eq_left HLE.out]
def emB (s:ByteArray):Bool:=s.toList.isEmpty
def zJn (s:ByteArray):Bool:=!s.toList.isEmpty && decide ((s.size:Int)≤1000)
theorem zAt (s:ByteArray):Calls Tryz.prog 148 #[.string s] w fun e w'=>e=.returned (.bool (zJn s))∧w'=w:=by
 go_enter Tryz.func148,Tryz.ntmps148
 go_wp2_with fail
 ·rename_i h
  go_ret
  refine ⟨?_,rfl⟩;unfold zJn;rw [h];rfl
 ·go_ret
  exact ⟨rfl,rfl⟩
def yS (op:Int) (nm vl:ByteArray) (n:Nat):Bool:=
 decide (0≤op∧op≤7) && (if op=4∨op=5 then zJn nm else emB nm) && (if op=5 then decide ((vl.size:Int)≤1000) else if op=6∨op=7 then zJn vl else emB vl) &&
 decide ((if op=1∨op=2 then 2 else if op=3 then 1 else 0:Int)≤n) && decide ((n:Int)≤if op=1∨op=2 then 30 else if op=3 then 1 else 0)
def xG (b:Bool) (w:World) (e:Ending) (w':World):Prop:=e=.returned (.bool b)∧Fr (fun _=>False) w w'
theorem zWk (op:Int) (nm vl:ByteArray) (oa:Option Addr) (n cap:Nat):Calls Tryz.prog 92 #[exV op nm vl (.slice oa n cap)] w (xG (yS op nm vl n) w):=by
 unfold exV;have f1:=zz ((Fr.same w).alloc (.cells #[.int .i64 op,.string nm,.string vl,.slice oa n cap] 38));have x1:=zz (zC w (.cells #[.int .i64 op,.string nm,.string vl,.slice oa n cap] 38));have z0:∀y:Lcl.InS (fun w'=>Fr (fun _=>False) (w.alloc (.cells #[.int .i64 op,.string nm,.string vl,.slice oa n cap] 38)) w'),y.w.cell? ⟨w.heap.size,1,none⟩=some (.string nm):=fun y=>y.h.cel ((zB x1.out 1).trans rfl)
 have z1:∀y:Lcl.InS (fun w'=>Fr (fun _=>False) (w.alloc (.cells #[.int .i64 op,.string nm,.string vl,.slice oa n cap] 38)) w'),y.w.cell? ⟨w.heap.size,2,none⟩=some (.string vl):=fun y=>y.h.cel ((zB x1.out 2).trans rfl)
 go_enter Tryz.func92,Tryz.ntmps92
 go_wp2_with fail
 generalize (w.alloc (.cells #[.int .i64 op,.string nm,.string vl,.slice oa n cap] 38))=W at *;refine Lcl.wp_region_calm (by kernel_rfl) [(true,[0,3]),(false,[1,4]),(true,[2,5,6,7])] #[0,1,3,0,8,24,7,127] [0,1,2,3,4,5,6] 0 #[true,true,true,true,true,true,true,true] (by kernel_rfl) (by kernel_rfl) (by kernel_rfl) (fun w'=>Fr (fun _=>False) W w') (Fr.same W).drew (fun d c a v w h=>by cases d <;> exact h) ?_;simp only [Lcl.opsOf,List.map_cons,List.map_nil,List.getElem?_toArray,List.getElem?_cons_succ,List.getElem?_cons_zero,Option.getD_some];refine Lcl.wpCalm_t ?_
 repeat (go_big_quiet_step (rfl))
 refine wpQuiet_nil ?_;refine Lcl.wpCalm_f ?_
 repeat (go_big_quiet_step (rfl))
 refine wpQuiet_nil ?_;refine Lcl.wpCalm_t ?_
 repeat (go_big_quiet_step (rfl))
 refine wpQuiet_nil ?_;refine Lcl.wpCalm_nil ?_;refine Lcl.wpG_run [] _ _ _ (by kernel_rfl) ?_;simp only [List.map_cons,List.map_nil,List.getElem?_toArray,List.getElem?_cons_succ,List.getElem?_cons_zero,Option.getD_some];clear z0 z1;have x2:=zz (((Fr.same W).drew.block _ (zA x1.out) (fun h=>h)).trans x1.out);have F2:=zz f1.out.drew;clear f1 x1;generalize W.drew=W2 at *;have dd:=fun j=>zB x2.out j
 by_cases h0:op=0
 ·subst h0
  go_wp2_with fail
  all_goals (go_ret; refine ⟨?_,F2.out⟩; first | (simp_all [yS,emB]; done) | (simp_all [yS,emB]; intros; omega))
 by_cases h1:op=1
 ·subst h1
  go_wp2_with fail
  all_goals (go_ret; refine ⟨?_,F2.out⟩; first | (simp_all [yS,emB]; done) | (simp_all [yS,emB]; intros; omega))
 by_cases h2:op=2
 ·subst h2
  go_wp2_with fail
  all_goals (go_ret; refine ⟨?_,F2.out⟩; first | (simp_all [yS,emB]; done) | (simp_all [yS,emB]; intros; omega))
 by_cases h3:op=3
 ·subst h3
  go_wp2_with fail
  all_goals (go_ret; refine ⟨?_,F2.out⟩; first | (simp_all [yS,emB]; done) | (simp_all [yS,emB]; intros; omega))
 by_cases h4:op=4
 ·subst h4
  go_wp2_with (go_at_call 148; refine (zAt _).mono ?_; rintro e w' ⟨rfl,rfl⟩)
  all_goals (go_ret; refine ⟨?_,F2.out⟩; first | (simp_all [yS,emB]; done) | (simp_all [yS,emB]; intros; omega))
 by_cases h5:op=5
 ·subst h5
  go_wp2_with (go_at_call 148; refine (zAt _).mono ?_; rintro e w' ⟨rfl,rfl⟩)
  all_goals (go_ret; refine ⟨?_,F2.out⟩; first | (simp_all [yS,emB]; done) | (simp_all [yS,emB]; intros; omega))
 by_cases h6:op=6
 ·subst h6
  go_wp2_with (go_at_call 148; refine (zAt _).mono ?_; rintro e w' ⟨rfl,rfl⟩)
  all_goals (go_ret; refine ⟨?_,F2.out⟩; first | (simp_all [yS,emB]; done) | (simp_all [yS,emB]; intros; omega))
 by_cases h7:op=7
 ·subst h7
  go_wp2_with (go_at_call 148; refine (zAt _).mono ?_; rintro e w' ⟨rfl,rfl⟩)
  all_goals (go_ret; refine ⟨?_,F2.out⟩; first | (simp_all [yS,emB]; done) | (simp_all [yS,emB]; intros; omega))
 go_wp2_with fail
 go_ret
 refine ⟨?_,F2.out⟩
 have:yS op nm vl n=false:=by
  unfold yS;rw [decide_eq_false (show ¬(0≤op∧op≤7) by omega)];rfl
 rw [this];rfl
def zCs:Fst→Nat→Bool
 | .nil,_=>true
 | .cons op nm vl ks r,l=>(decide (l≠0) && yS op nm vl ks.len && zCs ks (l - 1)) && zCs r l
def yz (op:Int) (nm vl:ByteArray) (ks:Fst) (l:Nat):Bool:=decide (l≠0) && yS op nm vl ks.len && zCs ks (l - 1)
theorem vn (op:Int) (nm vl:ByteArray) (ks r:Fst) (l:Nat):zCs (.cons op nm vl ks r) l=(yz op nm vl ks l && zCs r l):=rfl
theorem zNu {op:Int} {nm vl:ByteArray} {n:Nat} (h:yS op nm vl n=true):n≤30:=by
 unfold yS at h;simp only [Bool.and_eq_true,decide_eq_true_eq] at h
 have:=h.2
 split at this
 ·omega
 ·split at this <;> omega
theorem all_walk (l:Nat):∀(ks:Fst) (op:Int) (nm vl:ByteArray) (kv:Value) (w:World),l≤6→xV K w kv ks→(∀i,K i→i < w.heap.size)→
  Calls Tryz.prog 47 #[exV op nm vl kv,.int .i64 l] w (xG (yz op nm vl ks l) w):=by
 induction l with
 | zero=>
  intro ks op nm vl kv w hl hk ho;obtain ⟨oa,cap,rfl,-⟩:=hk;unfold exV;go_enter Tryz.func47,Tryz.ntmps47
  go_wp2_with fail
  go_ret
  exact ⟨rfl,(Fr.same w).alloc _⟩
 | succ l ih=>
  intro ks op nm vl kv w hl hk ho;obtain ⟨oa,cap,rfl,-⟩:=id hk;have CW:=zz (zWk op nm vl oa ks.len cap (w:=w.alloc (.cells #[.int .i64 op,.string nm,.string vl,.slice oa ks.len cap] 38)));have F1:=zz ((Fr.same w).alloc (.cells #[.int .i64 op,.string nm,.string vl,.slice oa ks.len cap] 38));have X1:=zz (zC w (.cells #[.int .i64 op,.string nm,.string vl,.slice oa ks.len cap] 38));have KW:=zz hk;have dx:=zD w #[.int .i64 op,.string nm,.string vl,.slice oa ks.len cap] 38;unfold exV at CW ⊢;clear hk;go_enter Tryz.func47,Tryz.ntmps47
  go_wp2_with fail
  clear dx;generalize (w.alloc (.cells #[.int .i64 op,.string nm,.string vl,.slice oa ks.len cap] 38))=w1 at *;refine CW.out.mono ?_;rintro e w2 ⟨rfl,f2⟩;have F2:=zz (F1.out.tr f2);have X2:=zz (blk X1.out f2 fun h=>h);have dx:=zB X2.out;clear f2 CW F1 X1;obtain ⟨fb,hfb⟩:∃fb,fb=yS op nm vl ks.len:=⟨_,rfl⟩;rw [←hfb];have HFB:=zz hfb;clear hfb;cases fb with
  | false=>
   go_wp2_with fail
   go_ret
   refine ⟨?_,F2.out⟩;unfold yz;rw [←HFB.out];simp
  | true=>
   have hlen:=zNu HFB.out.symm;go_wp2_with fail
   have hne:((l:Int)+1 == 0)=false:=by simp; omega
   simp only [hne];clear hne;go_loopw [17] (fun i wr=>∃k:Nat,i=.int .i64 k∧k≤ks.len∧zCs ks l=zCs (ks.drop k) l∧Fr (fun _=>False) w wr) (fun i _=>ks.len - (intOf i).toNat)
   case atStart=>exact ⟨0,rfl,Nat.zero_le _,by rw [Fst.drop_zero],F2.out⟩
   case round=>
    obtain ⟨k,rfl,hk,hall,hF⟩:=hrel;have FF:=zz hF;have ALL:=zz hall;clear hF hall dx;rcases Nat.lt_or_ge k ks.len with hlt | hge
    ·obtain ⟨op1,nm1,vl1,xs,hd,-⟩:=ks.drop_at k hlt
     obtain ⟨a,kv1,rfl,hKa,hpt,hkid⟩:=(KW.out.old FF.out).at hd hlt;obtain ⟨c0,c1,c2,c3⟩:=hpt;obtain ⟨oa1,cap1,rfl,-⟩:=id hkid;have fa:=(Fr.same wr).alloc (.cells #[.int .i64 op1,.string nm1,.string vl1,.slice oa1 xs.len cap1] 38);have FA:=zz (FF.out.tr fa);have IH:=zz (ih xs op1 nm1 vl1 _ _ (by omega) (hkid.old fa) fun i hi=>Nat.lt_of_lt_of_le (ho i hi) FA.out.size);have HD:=zz hd;unfold exV at IH;have dx:=zD wr #[.int .i64 op1,.string nm1,.string vl1,.slice oa1 xs.len cap1] 38;clear fa hkid hd FF;go_wp2_with fail
     refine IH.out.mono ?_;rintro e w4 ⟨rfl,f4⟩;have F4:=zz (FA.out.tr f4);clear f4 IH dx FA;obtain ⟨pb,hpb⟩:∃pb,pb=yz op1 nm1 vl1 xs l:=⟨_,rfl⟩;rw [←hpb];have HPB:=zz hpb;clear hpb;cases pb with
     | false=>
      go_wp2_with fail
      go_ret
      refine ⟨?_,F4.out⟩;have e:zCs ks l=false:=by rw [ALL.out,HD.out,vn,←HPB.out]; rfl
      unfold yz;rw [show l+1 - 1=l by omega,e,Bool.and_false];rfl
     | true=>
      go_wp2_with fail
      go_roundw
      case rel=>exact ⟨k+1,by go_num,by omega,by rw [ALL.out,HD.out,vn,←HPB.out]; rfl,F4.out⟩
      case measure=>simp [intOf]; omega
    ·obtain rfl:k=ks.len:=by omega
     go_wp2_with fail
     go_ret
     refine ⟨?_,FF.out⟩;have e:zCs ks l=true:=by rw [ALL.out,Fst.drop_end]; rfl
     unfold yz;rw [show l+1 - 1=l by omega,e,←HFB.out];simp
end
section
variable {w w':World} {S:Nat→Prop} {K:Nat→Prop}
noncomputable def xp (op:Int) (nm vl:ByteArray) (ks:Fst):Bool:=decide (uV ks 1≤30) && yz op nm vl ks 6
def OkPost (b:Bool) (w:World) (e:Ending) (w':World):Prop:=e=.returned (.int .i64 (if b then 0 else 1))∧Fr (fun _=>False) w w'
theorem ku (op:Int) (nm vl:ByteArray) (kv:Value) (ks:Fst) (hk:xV K w kv ks) (ho:∀i,K i→i < w.heap.size):Calls Tryz.prog 19 #[exV op nm vl kv] w (OkPost (xp op nm vl ks) w):=by
 obtain ⟨oa,cap,rfl,-⟩:=id hk;have f1:=(Fr.same w).alloc (.cells #[.int .i64 op,.string nm,.string vl,.slice oa ks.len cap] 38);have SZ:=zz (zQu op nm vl _ ks (hk.old f1) fun i hi=>Nat.lt_of_lt_of_le (ho i hi) f1.size);have KW:=zz hk;have F1:=zz f1;have X1:=zz (zC w (.cells #[.int .i64 op,.string nm,.string vl,.slice oa ks.len cap] 38));have dx:=zD w #[.int .i64 op,.string nm,.string vl,.slice oa ks.len cap] 38;unfold exV at SZ ⊢;clear f1 hk;by_cases h30:uV ks 1≤30
 ·have h30':((uV ks 1:Nat):Int)≤30:=by omega
  go_enter Tryz.func19,Tryz.ntmps19
  go_wp2_with fail
  generalize (w.alloc (.cells #[.int .i64 op,.string nm,.string vl,.slice oa ks.len cap] 38))=w1 at *;refine SZ.out.mono ?_;rintro e w2 ⟨rfl,f2⟩;have F2:=zz (F1.out.tr f2);have X2:=zz (blk X1.out f2 fun h=>h);have AW:=zz (all_walk 6 ks op nm vl _ w2 (by omega) (KW.out.old F2.out) fun i hi=>Nat.lt_of_lt_of_le (ho i hi) F2.out.size);unfold exV at AW;clear f2 SZ dx;have dx:=zB X2.out;go_wp2_with fail
  refine AW.out.mono ?_;rintro e w3 ⟨rfl,f3⟩;have F3:=zz (F2.out.tr f3);clear f3 AW dx;obtain ⟨pb,hpb⟩:∃pb,pb=yz op nm vl ks 6:=⟨_,rfl⟩;rw [←hpb];have HPB:=zz hpb;clear hpb;have E1:=zz (show xp op nm vl ks=pb by unfold xp; rw [decide_eq_true h30,←HPB.out]; rfl);cases pb
  ·go_wp2_with fail
   go_ret
   exact ⟨by rw [E1.out]; rfl,F3.out⟩
  ·go_wp2_with fail
   go_ret
   exact ⟨by rw [E1.out]; rfl,F3.out⟩
 ·have h30':30 < ((uV ks 1:Nat):Int):=by omega
  have e1:xp op nm vl ks=false:=by unfold xp; rw [decide_eq_false h30]; rfl
  rw [e1];clear e1;go_enter Tryz.func19,Tryz.ntmps19
  go_wp2_with fail
  refine SZ.out.mono ?_;rintro e w2 ⟨rfl,f2⟩;have F2:=zz (F1.out.tr f2);clear f2 SZ dx;go_wp2_with fail
  go_ret
  exact ⟨rfl,F2.out⟩
def uZ:Fst→Nat→Nat→Nat→Nat
 | .nil,n,_,_=>n
 | .cons _ _ _ ks r,n,left,deep=>if n < left∧1 < deep then uZ r (n+uZ ks 1 (left - n) (deep - 1)) left deep else n
theorem zHa (op:Int) (nm vl:ByteArray) (ks r:Fst) (n left deep:Nat):uZ (.cons op nm vl ks r) n left deep=if n < left∧1 < deep then uZ r (n+uZ ks 1 (left - n) (deep - 1)) left deep else n:=rfl
theorem zCt:∀(F:Fst) (n left deep:Nat),n≤left→1≤left→uZ F n left deep≤left
 | .nil,n,left,deep,h,_=>h
 | .cons _ _ _ ks r,n,left,deep,h,h1=>by
  unfold uZ;split
  ·have:=zCt ks 1 (left - n) (deep - 1) (by omega) (by omega)
   exact zCt r _ left deep (by omega) h1
  ·exact h
theorem zNv:∀(F:Fst) (n left deep:Nat),n≤uZ F n left deep
 | .nil,n,left,deep=>Nat.le_refl _
 | .cons _ _ _ ks r,n,left,deep=>by
  unfold uZ;split
  ·exact Nat.le_trans (Nat.le_add_right _ _) (zNv r _ left deep)
  ·exact Nat.le_refl _
def zFw (n:Nat) (w:World) (e:Ending) (w':World):Prop:=e=.returned (.int .i64 (n:Int))∧Fr (fun _=>False) w w'
theorem zQv (m:Nat):∀(ks:Fst) (op:Int) (nm vl:ByteArray) (kv:Value) (left deep:Nat) (w:World),ks.sz < m→1≤left→left≤100→1≤deep→deep≤100→xV K w kv ks→(∀i,K i→i < w.heap.size)→
  Calls Tryz.prog 89 #[exV op nm vl kv,.int .i64 left,.int .i64 deep] w (zFw (uZ ks 1 left deep) w):=by
 induction m with
 | zero=>intro ks op nm vl kv left deep w h; omega
 | succ m ih=>
  intro ks op nm vl kv left deep w hm hl1 hl2 hd1 hd2 hk ho;obtain ⟨oa,cap,rfl,-⟩:=id hk;have F1:=zz ((Fr.same w).alloc (.cells #[.int .i64 op,.string nm,.string vl,.slice oa ks.len cap] 38));have X1:=zz (zC w (.cells #[.int .i64 op,.string nm,.string vl,.slice oa ks.len cap] 38));have KW:=zz hk;have HM:=zz hm;unfold exV;clear hk hm;go_enter Tryz.func89,Tryz.ntmps89
  go_wp2_with fail
  generalize (w.alloc (.cells #[.int .i64 op,.string nm,.string vl,.slice oa ks.len cap] 38))=w1 at *;go_loopw [7,8] (fun n i wr=>∃k n':Nat,i=.int .i64 k∧n=.int .i64 n'∧k≤ks.len∧1+k≤n'∧n'≤left∧uZ (ks.drop k) n' left deep=uZ ks 1 left deep∧Fr (fun _=>False) w1 wr) (fun _ i _=>ks.len - (intOf i).toNat)
  case atStart=>exact ⟨0,1,rfl,rfl,Nat.zero_le _,by omega,hl1,by rw [Fst.drop_zero],Fr.same _⟩
  case round=>
   obtain ⟨k,n',rfl,rfl,hk,hn1,hn2,hs,hF⟩:=hrel;have FF:=zz (F1.out.tr hF);have FW:=zz hF;have XX:=zz (blk X1.out hF fun h=>h);have SS:=zz hs;have dx:=zB XX.out;clear hF hs;rcases Nat.lt_or_ge k ks.len with hlt | hge
   ·obtain ⟨op1,nm1,vl1,xs,hd,hsz⟩:=ks.drop_at k hlt
    have HD:=zz hd;by_cases hgo:n' < left∧1 < deep
    ·obtain ⟨hg1,hg2⟩:=hgo
     have hg1':(n':Int) < left:=by omega
     have hg2':1 < (deep:Int):=by omega
     obtain ⟨a,kv1,rfl,hKa,hpt,hkid⟩:=(KW.out.old FF.out).at hd hlt;obtain ⟨c0,c1,c2,c3⟩:=hpt;obtain ⟨oa1,cap1,rfl,-⟩:=id hkid;have IH:=zz (ih xs op1 nm1 vl1 _ (left - n') (deep - 1) wr (by have:=HM.out; omega) (by omega) (by omega) (by omega) (by omega) hkid fun i hi=>Nat.lt_of_lt_of_le (ho i hi) FF.out.size);have e1:((left - n':Nat):Int)=(left:Int) - n':=by omega
     have e2:((deep - 1:Nat):Int)=(deep:Int) - 1:=by omega
     rw [e1,e2] at IH;unfold exV at IH;have hle:=zCt xs 1 (left - n') (deep - 1) (by omega) (by omega);have hge:=zNv xs 1 (left - n') (deep - 1);obtain ⟨r,hr⟩:∃r,r=uZ xs 1 (left - n') (deep - 1):=⟨_,rfl⟩;rw [←hr] at IH hle hge;have HR:=zz hr;clear hkid hd e1 e2 hr;go_wp2_with fail
     refine IH.out.mono ?_;rintro e w4 ⟨rfl,f4⟩;have F4:=zz ((FW.out.tr f4));clear f4 IH dx c0 c1 c2 c3;go_wp2_with fail
     go_roundw
     case rel=>
      have e:=SS.out;rw [HD.out,zHa,if_pos ⟨hg1,hg2⟩,←HR.out] at e;exact ⟨k+1,n'+r,by go_num,by go_num,by omega,by omega,by omega,e,F4.out⟩
     case measure=>simp [intOf]; omega
    ·have e:=SS.out
     rw [HD.out,zHa,if_neg hgo] at e;have E:=zz e;clear e hd;by_cases hg1:n' < left
     ·have hg2':(deep:Int)≤1:=by omega
      have hg1':(n':Int) < left:=by omega
      go_wp2_with fail
      go_ret
      exact ⟨by rw [←E.out]; rfl,FF.out⟩
     ·have hg1':(left:Int)≤n':=by omega
      go_wp2_with fail
      go_ret
      exact ⟨by rw [←E.out]; rfl,FF.out⟩
   ·obtain rfl:k=ks.len:=by omega
    have e:=SS.out;rw [Fst.drop_end] at e;have E:=zz e;clear e;go_wp2_with fail
    go_ret
    exact ⟨by rw [←E.out]; rfl,FF.out⟩
end
section
variable {w w':World} {S:Nat→Prop} {K:Nat→Prop}
theorem zWl (op:Int) (nm vl:ByteArray) (kv:Value) (ks:Fst) (hk:xV K w kv ks) (ho:∀i,K i→i < w.heap.size):Calls Tryz.prog 44 #[exV op nm vl kv] w (zFw (uZ ks 1 100 100) w):=by
 obtain ⟨oa,cap,rfl,-⟩:=id hk;have f1:=(Fr.same w).alloc (.cells #[.int .i64 op,.string nm,.string vl,.slice oa ks.len cap] 38);have SZ:=zz (zQv (ks.sz+1) ks op nm vl _ 100 100 _ (by omega) (by omega) (by omega) (by omega) (by omega) (hk.old f1) fun i hi=>Nat.lt_of_lt_of_le (ho i hi) f1.size);have F1:=zz f1;have dx:=zD w #[.int .i64 op,.string nm,.string vl,.slice oa ks.len cap] 38;have LE:=zz (zCt ks 1 100 100 (by omega) (by omega));unfold exV at SZ ⊢;clear f1 hk;go_enter Tryz.func44,Tryz.ntmps44
 go_wp2_with fail
 refine SZ.out.mono ?_;rintro e w2 ⟨rfl,f2⟩;have F2:=zz (F1.out.tr f2);clear f2 SZ dx;go_wp2_with fail
 go_ret
 refine ⟨?_,F2.out⟩
 show Ending.returned (Value.int .i64 (min _ _))=_
 rw [Int.min_eq_left (by have:=LE.out; omega)]
def zHb:Fst→Nat→Nat→Nat
 | .nil,d,_=>d
 | .cons _ _ _ ks r,d,l=>zHb r (max d (if l - 1≤1 then 1 else zHb ks 0 (l - 1)+1)) l
def zNw (ks:Fst) (l:Nat):Nat:=if l≤1 then 1 else zHb ks 0 l+1
theorem zWm (op:Int) (nm vl:ByteArray) (ks r:Fst) (d l:Nat):zHb (.cons op nm vl ks r) d l=zHb r (max d (zNw ks (l - 1))) l:=rfl
theorem zFx:∀(F:Fst) (d l:Nat),2≤l→d+1≤l→zHb F d l+1≤l
 | .nil,d,l,_,h=>h
 | .cons _ _ _ ks r,d,l,h2,h=>by
  unfold zHb;refine zFx r _ l h2 ?_;split
  ·omega
  ·have:=zFx ks 0 (l - 1) (by omega) (by omega)
   omega
theorem depN_le (ks:Fst) (l:Nat) (h:1≤l):zNw ks l≤l:=by
 unfold zNw;split
 ·exact h
 ·exact zFx ks 0 l (by omega) (by omega)
theorem zNx (m:Nat):∀(ks:Fst) (op:Int) (nm vl:ByteArray) (kv:Value) (l:Nat) (w:World),ks.sz < m→1≤l→l≤100→xV K w kv ks→(∀i,K i→i < w.heap.size)→
  Calls Tryz.prog 90 #[exV op nm vl kv,.int .i64 l] w (zFw (zNw ks l) w):=by
 induction m with
 | zero=>intro ks op nm vl kv l w h; omega
 | succ m ih=>
  intro ks op nm vl kv l w hm hl1 hl2 hk ho;have hml:=hk.len;obtain ⟨oa,cap,rfl,-⟩:=id hk;have F1:=zz ((Fr.same w).alloc (.cells #[.int .i64 op,.string nm,.string vl,.slice oa ks.len cap] 38));have X1:=zz (zC w (.cells #[.int .i64 op,.string nm,.string vl,.slice oa ks.len cap] 38));have KW:=zz hk;have HM:=zz hm;unfold maxLen at hml;unfold exV;clear hk hm;by_cases h1:l≤1
  ·have h1':(l:Int)≤1:=by omega
   have E:=zz (show zNw ks l=1 from if_pos h1);go_enter Tryz.func90,Tryz.ntmps90
   go_wp2_with fail
   go_ret
   exact ⟨by rw [E.out]; rfl,F1.out⟩
  ·have h1':1 < (l:Int):=by omega
   have E:=zz (show zNw ks l=zHb ks 0 l+1 from if_neg h1);have LE:=zz (zFx ks 0 l (by omega) (by omega));go_enter Tryz.func90,Tryz.ntmps90
   go_wp2_with fail
   generalize (w.alloc (.cells #[.int .i64 op,.string nm,.string vl,.slice oa ks.len cap] 38))=w1 at *;go_loopw [5,6] (fun d i wr=>∃k d':Nat,i=.int .i64 k∧d=.int .i64 d'∧k≤ks.len∧d'+1≤l∧zHb (ks.drop k) d' l=zHb ks 0 l∧Fr (fun _=>False) w1 wr) (fun _ i _=>ks.len - (intOf i).toNat)
   case atStart=>exact ⟨0,0,rfl,rfl,Nat.zero_le _,by omega,by rw [Fst.drop_zero],Fr.same _⟩
   case round=>
    obtain ⟨k,d',rfl,rfl,hk,hd2,hs,hF⟩:=hrel;have FF:=zz (F1.out.tr hF);have FW:=zz hF;have XX:=zz (blk X1.out hF fun h=>h);have SS:=zz hs;have dx:=zB XX.out;clear hF hs;rcases Nat.lt_or_ge k ks.len with hlt | hge
    ·obtain ⟨op1,nm1,vl1,xs,hd,hsz⟩:=ks.drop_at k hlt
     have HD:=zz hd;obtain ⟨a,kv1,rfl,hKa,hpt,hkid⟩:=(KW.out.old FF.out).at hd hlt;obtain ⟨c0,c1,c2,c3⟩:=hpt;obtain ⟨oa1,cap1,rfl,-⟩:=id hkid;have IH:=zz (ih xs op1 nm1 vl1 _ (l - 1) wr (by have:=HM.out; omega) (by omega) (by omega) hkid fun i hi=>Nat.lt_of_lt_of_le (ho i hi) FF.out.size);have e1:((l - 1:Nat):Int)=(l:Int) - 1:=by omega
     rw [e1] at IH;unfold exV at IH;have hle:=depN_le xs (l - 1) (by omega);obtain ⟨r,hr⟩:∃r,r=zNw xs (l - 1):=⟨_,rfl⟩;rw [←hr] at IH hle;have HR:=zz hr;clear hkid hd e1 hr;go_wp2_with fail
     refine IH.out.mono ?_;rintro e w4 ⟨rfl,f4⟩;have F4:=zz (FW.out.tr f4);clear f4 IH dx c0 c1 c2 c3;go_wp2_with fail
     go_roundw
     case rel=>
      have e:=SS.out;rw [HD.out,zWm,←HR.out] at e;exact ⟨k+1,max d' r,by go_num,by rw [show ((max d' r:Nat):Int)=max (d':Int) r by omega],by omega,by omega,e,F4.out⟩
     case measure=>simp [intOf]; omega
    ·obtain rfl:k=ks.len:=by omega
     have e:=SS.out;rw [Fst.drop_end] at e;have E2:=zz (show d'=zHb ks 0 l from e);have hd100:d'≤100:=by omega
     clear e;go_wp2_with fail
     go_ret
     exact ⟨by rw [E.out,←E2.out]; rfl,FF.out⟩
theorem zQw (op:Int) (nm vl:ByteArray) (kv:Value) (ks:Fst) (hk:xV K w kv ks) (ho:∀i,K i→i < w.heap.size):Calls Tryz.prog 45 #[exV op nm vl kv] w (zFw (zNw ks 100) w):=by
 obtain ⟨oa,cap,rfl,-⟩:=id hk;have f1:=(Fr.same w).alloc (.cells #[.int .i64 op,.string nm,.string vl,.slice oa ks.len cap] 38);have SZ:=zz (zNx (ks.sz+1) ks op nm vl _ 100 _ (by omega) (by omega) (by omega) (hk.old f1) fun i hi=>Nat.lt_of_lt_of_le (ho i hi) f1.size);have F1:=zz f1;have dx:=zD w #[.int .i64 op,.string nm,.string vl,.slice oa ks.len cap] 38;unfold exV at SZ ⊢;clear f1 hk;go_enter Tryz.func45,Tryz.ntmps45
 go_wp2_with fail
 refine SZ.out.mono ?_;rintro e w2 ⟨rfl,f2⟩;have F2:=zz (F1.out.tr f2);clear f2 SZ dx;go_wp2_with fail
 go_ret
 exact ⟨rfl,F2.out⟩
end
section
variable {w w':World} {S:Nat→Prop} {K:Nat→Prop}
def Fr5 (B:Nat) (w w':World):Prop:=Fr (fun i=>B≤i∧∃c f,w.heap[i]?=some (.cells c 5 f)) w w'
theorem Fr5.of {B:Nat} (h:Fr (fun _=>False) w w'):Fr5 B w w':=h.mono fun _ h=>h.elim
theorem Fr5.tr {B:Nat} {w1:World} (h1:Fr5 B w w1) (h2:Fr5 B w1 w'):Fr5 B w w':=by
 refine Fr.trans h1 h2 fun i hi=>?_
 obtain ⟨hB,c,f,hc⟩:=hi;rcases Nat.lt_or_ge i w.heap.size with hl | hl
 ·refine .inl ⟨hB,?_⟩
  by_cases hS:∃c f,w.heap[i]?=some (.cells c 5 f)
  ·exact hS
  ·exact ⟨c,f,(h1.block i hl fun h=>hS h.2).symm.trans hc⟩
 ·exact .inr hl
theorem own_heap {B n:Nat} {v:Value} {xs:List Value} (h:w.ownsRow B 5 1 v n xs) {k:Nat} (hk:v.ownBlock=some k):B≤k∧∃c f,w.heap[k]?=some (.cells c 5 f):=by
 rcases h.2 with ⟨rfl,-⟩ | ⟨g,cap,cur,rfl,hbg,hg,-⟩
 ·cases hk
 ·cases hk
  exact ⟨hbg,_,_,hg⟩
theorem Fr5.grown {B n:Nat} {v:Value} {xs:List Value} (h:w.ownsRow B 5 1 v n xs) (hg:w.grownBy w' v.ownBlock):Fr5 B w w':=
 (Fr.refl _ w).grown hg fun k hk=>.inl (own_heap h hk)
theorem Fr5.top (h:Fr5 w.heap.size w w'):Fr (fun _=>False) w w':=Fr.mono h fun i hi=>.inr hi.1
theorem Fr5.keep {B g:Nat} {c:Array Value} {t:TypeId} {f:Nat × Nat} (h:Fr5 B w w') (hc:w.heap[g]?=some (.cells c t f)) (ht:t≠5):w'.heap[g]?=some (.cells c t f):=by
 refine (h.block g (zA hc) fun hS=>?_).trans hc;obtain ⟨-,c',f',h'⟩:=hS;rw [hc] at h';injection h' with h'
 injection h' with h1 h2 h3
 exact ht h2
theorem zWn {B n:Nat} {v:Value} {xs:List Value} (h:w.ownsRow B 5 1 v n xs) (o:Obj):(w.alloc o).ownsRow B 5 1 v n xs:=zl h fun i hi=>zF _ (zK h hi).2
theorem own_old {B n:Nat} {v:Value} {xs:List Value} (h:w.ownsRow B 5 1 v n xs) (hf:Fr (fun _=>False) w w'):w'.ownsRow B 5 1 v n xs:=zl h fun i hi=>hf.block i (zK h hi).2 fun h=>h
def uN (w:World) (B:Nat) (v:Value) (L:List UInt8):Prop:=w.ownsRow B 5 1 v L.length (L.map zL)
theorem uN.alloc {B:Nat} {v:Value} {L:List UInt8} (h:uN w B v L) (o:Obj):uN (w.alloc o) B v L:=zWn h o
theorem uN.old {B:Nat} {v:Value} {L:List UInt8} (h:uN w B v L) (hf:Fr (fun _=>False) w w'):uN w' B v L:=own_old h hf
section
variable {ops:Array Oper} {rest:List Oper} {o:Oper} {a:Act} {Q:Exit→Act→World→Prop}
theorem uC (hgd:o.guard=none) (s x:Operand) (ho:o.op=.call { callee:=.builtin .append,args:=#[s,x],argTypes:=#[305,305] }) (B:Nat) (v:Value) (bs:List UInt8) (hs:a.eval s=v)
  (hown:uN w B v bs) (c:UInt8) (g:Nat) (hx:a.eval x=.slice (some ⟨g,0,none⟩) 1 1) (hc:w.cell? ⟨g,0,none⟩=some (zL c)) (hlen:bs.length≤1000000000) (hB:B≤w.heap.size)
  (h:∀v' w' L,Hid (L=bs++ [c])→uN w' B v' L→Fr5 B w w'→wpList Tryz.prog ops Q rest (a.put o.dst v') w'):wpList Tryz.prog ops Q (o::rest) a w:=by
 obtain ⟨i,hi,hz,h1,h2⟩:=info_parts zMm;refine zP w hgd s x 305 ho B 5 i (.int .u8 0) 1 1 Tryz.underlying305 hi hz h1 h2 rfl (by decide) v bs.length (bs.map zL) hs hown ⟨g,0,none⟩ 1 1 [zL c] hx rfl ?_ ?_ (by unfold maxLen; omega) (by omega) hB ?_
 ·intro j u hj
  match j,hj with
  | 0,hj=>simp at hj; subst hj; exact hc
  | j+1,hj=>simp at hj
 ·intro u hu
  simp at hu;subst hu;rfl
 ·intro v' w' ho' hg _
  refine h v' w' _ (zz rfl) ?_ (Fr5.grown hown hg);unfold uN;rw [List.map_append,List.length_append];exact ho'
theorem zCu (hgd:o.guard=none) (s x:Operand) (u:TypeId) (hu:Tryz.prog.underlying u=some .string) (ho:o.op=.call { callee:=.builtin .append,args:=#[s,x],argTypes:=#[305,u] }) (B:Nat) (v:Value) (bs:List UInt8) (hs:a.eval s=v)
  (hown:uN w B v bs) (t:ByteArray) (hx:a.eval x=.string t) (hlen:bs.length+t.size≤1000000000) (hB:B≤w.heap.size)
  (h:∀v' w' L,Hid (L=bs++t.data.toList)→uN w' B v' L→Fr5 B w w'→wpList Tryz.prog ops Q rest (a.put o.dst v') w'):wpList Tryz.prog ops Q (o::rest) a w:=by
 obtain ⟨i,hi,hz,h1,h2⟩:=info_parts zMm;refine Lib.wpList_append_own_string w hgd s x 305 u ho B 5 i Tryz.underlying305 hu hi hz h1 h2 v bs.length (bs.map zL) hs hown t hx (by unfold maxLen; omega) (by omega) hB ?_;intro v' w' ho' hg _;refine h v' w' _ (zz rfl) ?_ (Fr5.grown hown hg);unfold uN;rw [List.map_append,List.length_append,Array.length_toList];exact ho'
end
end
end Go.Proofs.YtfdhofabgdkkkaaGreatDoor

/- A part of the proof that what the machine is told keeps its bounds. -/
import Derived.Test.YtfdhofabgdkkkaaGreatDoorJ24
set_option maxHeartbeats 128000000
set_option maxRecDepth 100000
namespace Go.Proofs.YtfdhofabgdkkkaaGreatDoor
open Lib renaming hid→zz
open Go.RowKit Go.Fm Go.BigFrame Go.Shelf Go.Maps
set_option linter.unusedVariables false
set_option linter.unusedSimpArgs false
section
variable {w w':World} {S K:Nat→Prop}
def zHe (g:Nat) (lb:List Value) (p:zN→Bool) (C:World→Prop):Prop:=∀(z:zN) (w:World),C w→Calls Tryz.prog g (zIr z::lb).toArray w (xG (p z) w)
def GIdxPost (p:zN→Bool) (zs:List zN) (w:World) (e:Ending) (w':World):Prop:=
 ∃i:Int,e=.returned (.int .i64 i)∧((i= -1∧∀z∈zs,p z=false)∨∃(k:Nat) (z:zN),i=k∧zs[k]?=some z∧p z=true∧∀(j:Nat) (y:zN),j < k→zs[j]?=some y→p y=false)∧Fr (fun _=>False) w w'
theorem zJu {g:Nat} {lb:List Value} {p:zN→Bool} {C:World→Prop} (eg:∀args w,(callFunc g args).run Tryz.prog w=.ok (.enter g args) w) (hP:zHe g lb p C) (hC:∀w w',C w→Fr (fun _=>False) w w'→C w') (zs:List zN) (v:Value) (h:zo w v zs) (hl:zs.length≤1000) (hc:C w):
  Calls Tryz.prog 266 #[v,.func (.func g) #[] lb.toArray] w (GIdxPost p zs w):=by
 obtain ⟨oa,cap,rfl⟩:=id h.slice;have H:=zz h;have CW:=zz hc;clear h hc;go_enter Tryz.func266,Tryz.ntmps266
 go_wp2_with fail
 go_loopw [8] (fun i wr=>∃k:Nat,i=.int .i64 k∧k≤zs.length∧(∀(j:Nat) (y:zN),j < k→zs[j]?=some y→p y=false)∧Fr (fun _=>False) w wr) (fun i _=>zs.length - (intOf i).toNat)
 case atStart=>exact ⟨0,rfl,Nat.zero_le _,fun j y hj=>absurd hj (Nat.not_lt_zero _),Fr.same _⟩
 case round=>
  obtain ⟨k,rfl,hk,hall,hF⟩:=hrel;have FF:=zz hF;have ALL:=zz hall;clear hF hall;rcases Nat.lt_or_ge k zs.length with hlt | hge
  ·obtain ⟨z,hz⟩:=zH hlt
   obtain ⟨b,cap',hsl,-,hat⟩:=(H.out.old FF.out).at hz;injection hsl with e1 _ e3
   subst e1 e3;obtain ⟨c0,c1,c2,c3,c4⟩:=hat;have LW:=zz (hP z wr (hC _ _ CW.out FF.out));have HZ:=zz hz;unfold zIr at LW;clear hz;go_wp2_with fail
   refine LW.out.mono ?_;rintro e w4 ⟨rfl,f4⟩;have F4:=zz (FF.out.tr f4);clear f4 LW c0 c1 c2 c3 c4;obtain ⟨pb,hpb⟩:∃pb,pb=p z:=⟨_,rfl⟩;rw [←hpb];have HPB:=zz hpb;clear hpb;cases pb with
   | true=>
    go_wp2_with fail
    go_ret
    exact ⟨_,rfl,.inr ⟨k,z,rfl,HZ.out,HPB.out.symm,ALL.out⟩,F4.out⟩
   | false=>
    go_wp2_with fail
    go_roundw
    case rel=>exact ⟨k+1,by go_num,by omega,fun j y hj hy=>by
     rcases Nat.lt_or_ge j k with h | h
     ·exact ALL.out j y h hy
     ·obtain rfl:j=k:=by omega
      obtain rfl:=Option.some.inj (HZ.out.symm.trans hy);exact HPB.out.symm,F4.out⟩
    case measure=>simp [intOf]; omega
  ·obtain rfl:k=zs.length:=by omega
   go_wp2_with fail
   go_ret
   exact ⟨-1,rfl,.inl ⟨rfl,fun z hz=>by obtain ⟨j,hj⟩:=List.mem_iff_getElem?.1 hz; exact ALL.out j z (List.getElem?_eq_some_iff.1 hj).1 hj⟩,FF.out⟩
theorem zWx {g:Nat} {lb:List Value} {p:zN→Bool} {C:World→Prop} (eg:∀args w,(callFunc g args).run Tryz.prog w=.ok (.enter g args) w) (hP:zHe g lb p C) (hC:∀w w',C w→Fr (fun _=>False) w w'→C w') (zs:List zN) (v:Value) (h:zo w v zs) (hl:zs.length≤1000) (hc:C w):
  Calls Tryz.prog 258 #[v,.func (.func g) #[] lb.toArray] w (xG (zs.any p) w):=by
 have IW:=zz (zJu eg hP hC zs v h hl hc);obtain ⟨oa,cap,rfl⟩:=id h.slice;clear h hc;go_enter Tryz.func258,Tryz.ntmps258
 go_wp2_with fail
 refine IW.out.mono ?_;rintro e w2 ⟨i,rfl,hi,f2⟩;have HI:=zz hi;have F2:=zz f2;clear hi f2 IW;go_wp2_with fail
 go_ret
 refine ⟨?_,F2.out⟩;have e:zs.any p=decide (0≤i):=by
  rcases HI.out with ⟨rfl,ha⟩ | ⟨k,z,rfl,hz,hp,-⟩
  ·rw [decide_eq_false (by omega)]
   exact List.any_eq_false.2 fun z hz=>by rw [ha z hz]; simp
  ·rw [decide_eq_true (by omega)]
   exact List.any_eq_true.2 ⟨z,List.mem_of_getElem? hz,hp⟩
 rw [e];rfl
theorem zCw {B:Nat} {e:TypeId} {s n:Nat} {v:Value} {g:Nat} (hg:v.ownBlock=some g):∀(vs:List Value) (o:Nat) (w:World) (xs:List Value),w.ownsRow B e s v n xs→∃xs',(w.setCells g o vs).ownsRow B e s v n xs'∧xs'.take o=xs.take o
 | [],o,w,xs,h=>⟨xs,h,rfl⟩
 | u::vs,o,w,xs,h=>by
  obtain ⟨xs',h1,h2⟩:=zCw hg vs (o+1) _ _ (vL h hg o u);refine ⟨xs',h1,?_⟩;have h3:=congrArg (List.take o) h2;rw [List.take_take,List.take_take,Nat.min_eq_left (by omega),List.take_set,List.set_eq_of_length_le (by rw [List.length_take]; omega)] at h3;exact h3
def zEw (n:Nat):List Value:=(Builtin.zeroCells #[.int .i64 0,.slice none 0 0,.int .i64 0,.bool false,.slice none 0 0] n).toList
theorem zJv (n:Nat):(zEw n).length=n * 5:=by simp [zEw,Builtin.zeroCells]
theorem zWy (n:Nat):∀v∈zEw n,v.oneCell'=true:=by
 intro v hv;simp only [zEw,Builtin.zeroCells,Array.toList_map,List.mem_map] at hv;obtain ⟨i,-,rfl⟩:=hv;have hi:i % 5 < 5:=Nat.mod_lt _ (by omega)
 show Value.oneCell' ((#[.int .i64 0,.slice none 0 0,.int .i64 0,.bool false,.slice none 0 0]:Array Value)[i % 5]!)=true
 match i % 5,hi with
 | 0,_=>rfl
 | 1,_=>rfl
 | 2,_=>rfl
 | 3,_=>rfl
 | 4,_=>rfl
theorem zHf (w:World) (ty:TypeId) (g o n c:Nat) (hn:0 < n) (hc:∀j,j < n * 5→(w.cell? ⟨g,o+j,none⟩).isSome=true) (hf:∀j,j < n * 5→w.frozen? ⟨g,o+j,none⟩=false):
  (Builtin.clear_ #[212] ty #[.slice (some ⟨g,o,none⟩) n c]).run Tryz.prog w=.ok (.tuple #[]) (w.setCells g o (zEw n)):=by
 have hst:=run_storeCells_cells (P:=Tryz.prog) g o (zEw n) 0 w (by rw [zJv]; simpa using hc) (by rw [zJv]; simpa using hf) (zWy n);simp only [Nat.add_zero] at hst;obtain ⟨m,rfl⟩:∃m,n=m+1:=⟨n - 1,by omega⟩;simp [Builtin.clear_,run_underlying Tryz.underlying212,Tryz.zeroValue266,Value.cells,hst]
 show ((Sem.run Tryz.prog (storeCells ⟨g,o,none⟩ (zEw (m+1))) w).andThen fun a w'=>Result.ok (Value.tuple #[]) w')=_
 rw [hst];rfl
end
section
variable {w w':World} {S K:Nat→Prop}
def GDelPost (p:zN→Bool) (zs:List zN) (v:Value) (w:World) (e:Ending) (w':World):Prop:=
 ∃v',e=.returned v'∧zo w' v' (zs.filter fun z=>!p z)∧v'.ownBlock=v.ownBlock∧Fr (fun i=>v.ownBlock=some i) w w'
theorem zo.cap {oa:Option Addr} {cap n:Nat} {zs:List zN} (h:zo w (.slice oa n cap) zs):n≤cap:=by
 rcases h.2 with ⟨hv,h0⟩ | ⟨g',cap',cur,hv,hb,hh,hnc,hcm,hcs,ht⟩
 ·injection hv with e1 e2 e3
  omega
 ·injection hv with e1 e2 e3
  omega
theorem zo.there {v:Value} {zs:List zN} (h:zo w v zs) {b:Nat} (hb:v.ownBlock=some b) {j:Nat} (hj:j < zs.length * 5):(w.cell? ⟨b,j,none⟩).isSome=true∧w.frozen? ⟨b,j,none⟩=false:=by
 rcases h.2 with ⟨rfl,h0⟩ | ⟨g',cap',cur,rfl,hb',hh,hnc,hcm,hcs,ht⟩
 ·cases hb
 ·have hb:g'=b:=Option.some.inj hb
  subst hb;refine ⟨?_,zd hh j⟩;rw [zB hh j,Array.getElem?_eq_getElem (by have:=Nat.mul_le_mul_right 5 hnc; omega)];rfl
theorem zHg {p:zN→Bool} :∀ {zs:List zN},(∀z∈zs,p z=false)→zs.filter (fun z=>!p z)=zs:=fun h=>List.filter_eq_self.2 fun z hz=>by rw [h z hz]; rfl
theorem zJw {g:Nat} {lb:List Value} {p:zN→Bool} {C:World→Prop} (eg:∀args w,(callFunc g args).run Tryz.prog w=.ok (.enter g args) w) (hP:zHe g lb p C) (zs:List zN) (v:Value) (hC:∀w w',C w→Fr (fun i=>v.ownBlock=some i) w w'→C w') (h:zo w v zs) (hl:zs.length≤1000) (hc:C w):
  Calls Tryz.prog 220 #[v,.func (.func g) #[] lb.toArray] w (GDelPost p zs v w):=by
 have IW:=zz (zJu eg hP (fun w w' c f=>hC w w' c (f.mono fun _ h=>h.elim)) zs v h hl hc);obtain ⟨oa,cap,hv⟩:=id h.slice;subst hv;have H:=zz h;have CW:=zz hc;clear h hc;go_enter Tryz.func220,Tryz.ntmps220
 go_wp2_with fail
 refine IW.out.mono ?_;rintro e w2 ⟨i,rfl,hi,f2⟩;have F2:=zz f2;clear f2 IW;rcases hi with ⟨rfl,hall⟩ | ⟨k,z,rfl,hz,hp,hall⟩
 ·have ALL:=zz hall
  clear hall;go_wp2_with fail
  go_ret
  exact ⟨_,rfl,by rw [zHg ALL.out]; exact H.out.old F2.out,rfl,F2.out.mono fun _ h=>h.elim⟩
 ·obtain ⟨b,cap',hsl,hob,-⟩:=H.out.at hz
  injection hsl with e1 _ e3
  subst e1 e3;have hkl:=(List.getElem?_eq_some_iff.1 hz).1;have INV:∃xs:List zN,xs.length=zs.length∧xs.take k=(zs.take (k+1)).filter (fun z=>!p z)∧xs.drop (k+1)=zs.drop (k+1)∧zo w2 (.slice (some ⟨b,0,none⟩) zs.length cap) xs:=by
   refine ⟨zs,rfl,?_,rfl,H.out.old F2.out⟩;have h1:zs.take (k+1)=zs.take k++ [z]:=by rw [List.take_add_one,hz]; rfl
   rw [h1,List.filter_append,zHg fun y hy=>by
    obtain ⟨j,hj⟩:=List.mem_iff_getElem?.1 hy;rw [List.getElem?_take] at hj;split at hj
    ·exact hall j y (by assumption) hj
    ·cases hj]
   simp [hp]
  have II:=zz INV;have CW2:=zz (hC _ _ CW.out (F2.out.mono fun _ h=>h.elim));clear INV hall hz hp;have hk1:((k:Int) == -1)=false:=by rw [beq_eq_false_iff_ne]; omega
  go_wp2_with fail
  go_loopw [5,6] (fun i j wr=>∃(m n:Nat) (xs:List zN),i=.int .i64 m∧j=.int .i64 n∧m < n∧n≤zs.length∧xs.length=zs.length∧xs.take m=(zs.take n).filter (fun z=>!p z)∧xs.drop n=zs.drop n∧zo wr (.slice (some ⟨b,0,none⟩) zs.length cap) xs∧Fr (fun i=>i=b) w2 wr) (fun _ j _=>zs.length - (intOf j).toNat)
  case atStart=>
   obtain ⟨xs,h1,h2,h3,h4⟩:=II.out;exact ⟨k,k+1,xs,rfl,by go_num,by omega,by omega,h1,h2,h3,h4,Fr.refl _ _⟩
  case round=>
   obtain ⟨m,n,xs,rfl,rfl,hmn,hn,hxl,ht,hd,hR,hF⟩:=hrel;have RW:=zz hR;have FF:=zz hF;have TK:=zz ht;have DR:=zz hd;have XL:=zz hxl;clear hR hF ht hd hxl;rcases Nat.lt_or_ge n zs.length with hlt | hge
   ·obtain ⟨y,hy⟩:=zH (l:=xs) (k:=n) (by rw [XL.out]; exact hlt)
    obtain ⟨b',cap',hsl,hob',hat⟩:=RW.out.at hy;injection hsl with e1 e2 e3
    injection e1 with e1
    injection e1 with e1
    subst e1 e3;clear e2;obtain ⟨c0,c1,c2,c3,c4⟩:=hat;have fa:=(Fr.same wr).alloc (.cells #[.int .i64 y.m.id,.slice y.ta y.tn y.tc,.int .i64 y.m.un,.bool y.m.jo,.slice y.pa y.pn y.pc] 266);have xa:=zC wr (.cells #[.int .i64 y.m.id,.slice y.ta y.tn y.tc,.int .i64 y.m.un,.bool y.m.jo,.slice y.pa y.pn y.pc] 266);have dx:=fun j=>zB xa j
    have LW:=zz (hP y (wr.alloc (.cells #[.int .i64 y.m.id,.slice y.ta y.tn y.tc,.int .i64 y.m.un,.bool y.m.jo,.slice y.pa y.pn y.pc] 266)) (hC _ _ CW2.out ((FF.out.mono fun i h=>.inl (by rw [hob,h])).trans fa fun _ h=>h.elim)));have FA:=zz fa;have XA:=zz xa;have HY:=zz hy;unfold zIr at LW;clear hy fa xa;go_wp2_with fail
    refine LW.out.mono ?_;rintro e w4 ⟨rfl,f4⟩;have F4:=zz (FA.out.tr f4);have R4:=zz (RW.out.old F4.out);have X4:=zz ((f4.block _ (zA XA.out) fun h=>h).trans XA.out);clear f4 LW c0 c1 c2 c3 c4 dx XA FA;have hzy:zs[n]?=some y:=by
     have h1:=congrArg (fun l=>l[0]?) DR.out;simp only [List.getElem?_drop,Nat.add_zero] at h1;rw [←h1];exact HY.out
    have hdr:xs.drop (n+1)=zs.drop (n+1):=by
     have h1:=congrArg (List.drop 1) DR.out;rw [List.drop_drop,List.drop_drop] at h1
     first | exact h1 | (rwa [Nat.add_comm 1 n] at h1)
    have hzt:zs.take (n+1)=zs.take n++ [y]:=by rw [List.take_add_one,hzy]; rfl
    have ZT:=zz hzt;have DR1:=zz hdr;clear hzy hdr hzt;obtain ⟨pb,hpb⟩:∃pb,pb=p y:=⟨_,rfl⟩;rw [←hpb];have HPB:=zz hpb;clear hpb;have dx:=fun j=>zB X4.out j
    cases pb with
    | true=>
     have F5:=zz (FF.out.trans F4.out fun _ h=>h.elim);go_wp2_with fail
     go_roundw
     case rel=>exact ⟨m,n+1,xs,rfl,by go_num,by omega,by omega,XL.out,by rw [ZT.out,List.filter_append,←TK.out,List.filter_cons,←HPB.out]; simp,DR1.out,R4.out,F5.out⟩
     case measure=>simp [intOf]; omega
    | false=>
     have hml:m < xs.length:=by rw [XL.out]; omega
     have R5:=zz (R4.out.put hob hml y);have F5:=zz ((FF.out.trans F4.out fun _ h=>h.elim).trans (zAa (S:=fun i=>i=b) (jn y) (m * 5) w4 w4 (Fr.refl _ _) rfl) fun i e=>.inl e);obtain ⟨x0,hx0⟩:=zH hml;obtain ⟨b',cap',hsl,hob',hat⟩:=R4.out.at hx0;injection hsl with e1 e2 e3
     injection e1 with e1
     injection e1 with e1
     subst e1 e3;clear e2 hob' hx0;obtain ⟨c0,c1,c2,c3,c4⟩:=hat;have hx5:m * 5+5≤zs.length * 5:=by rw [XL.out] at hml; omega
     have z0:=(R4.out.there hob (j:=m * 5) (by rw [XL.out]; omega)).2;have z1:=(R4.out.there hob (j:=m * 5+1) (by rw [XL.out]; omega)).2;have z2:=(R4.out.there hob (j:=m * 5+2) (by rw [XL.out]; omega)).2;have z3:=(R4.out.there hob (j:=m * 5+3) (by rw [XL.out]; omega)).2;have z4:=(R4.out.there hob (j:=m * 5+4) (by rw [XL.out]; omega)).2;clear hml hx5;go_wp2_with fail
     go_roundw
     case rel=>exact ⟨m+1,n+1,xs.set m y,by go_num,by go_num,by omega,by omega,by rw [List.length_set,XL.out],by
      rw [ZT.out,List.filter_append,←TK.out,List.filter_cons,←HPB.out,List.take_add_one,List.getElem?_set_self (by rw [XL.out]; omega),List.take_set,List.set_eq_of_length_le (by rw [List.length_take]; omega)];rfl,by rw [List.drop_set_of_lt (by omega)]; exact DR1.out,R5.out,F5.out⟩
     case measure=>simp [intOf]; omega
   ·obtain rfl:n=zs.length:=by omega
    have hcp:=RW.out.cap;have hcm:m < cap:=by omega
    have hcl:=fun ty=>zHf wr ty b (m * 5) (zs.length - m) (cap - m) (by omega) (fun j hj=>(RW.out.there hob (by rw [XL.out]; omega)).1) (fun j hj=>(RW.out.there hob (by rw [XL.out]; omega)).2)
    go_wp2_with fail
    go_ret
    obtain ⟨xs',h1,h2⟩:=zCw hob (zEw (zs.length - m)) (m * 5) wr (xs.flatMap jn) (by have:=RW.out; unfold zo at this; rw [XL.out] at this; exact this);have h3:=zTq h1 (i:=m) (by omega);rw [h2,zAu jn 5 uv] at h3;have hm:(xs.take m).length=m:=by rw [List.length_take,XL.out]; omega
    have ht:zs.take zs.length=zs:=List.take_length;refine ⟨_,rfl,?_,rfl,(F2.out.mono fun _ h=>h.elim).trans (FF.out.trans (zAa (S:=fun i=>i=b) _ (m * 5) wr wr (Fr.refl _ _) rfl) fun i e=>.inl e) fun i e=>.inl (by rw [hob,e])⟩;have hq:zs.filter (fun z=>!p z)=xs.take m:=by rw [TK.out,ht]
    rw [hq];unfold zo;rw [hm];exact h3
end
section
variable {w w':World} {S K:Nat→Prop}
theorem zJx (z:zN) (m:Int) (w:World) (h1:0≤z.m.id∧z.m.id≤2199023255552) (h2:-1≤m∧m≤2199023255552):
  Calls Tryz.prog 257 #[zIr z,.int .i64 m] w fun e w'=>e=.returned (.int .i64 (z.m.id - m))∧Fr (fun _=>False) w w':=by
 unfold zIr;go_enter Tryz.func257,Tryz.ntmps257
 go_wp2_with fail
 go_ret
 exact ⟨rfl,(Fr.same _).alloc _⟩
def GBsPost (zs:List zN) (m:Int) (w:World) (e:Ending) (w':World):Prop:=
 ∃(r:Nat) (f:Bool),e=.returned (.tuple #[.int .i64 r,.bool f])∧r≤zs.length∧(∀(i:Nat) (z:zN),zs[i]?=some z→i < r→z.m.id < m)∧(∀(i:Nat) (z:zN),zs[i]?=some z→r≤i→m≤z.m.id)∧(f=true→∃z,zs[r]?=some z∧z.m.id=m)∧(f=false→∀z,zs[r]?=some z→z.m.id≠m)∧Fr (fun _=>False) w w'
structure GBsMid (zs:List zN) (m:Int) (w:World) (a b:Nat) (wr:World):Prop where
 ab:a≤b
 bn:b≤zs.length
 lo:∀(i:Nat) (z:zN),zs[i]?=some z→i < a→z.m.id < m
 hi:∀(i:Nat) (z:zN),zs[i]?=some z→b≤i→m≤z.m.id
 fr:Fr (fun _=>False) w wr
def uw (zs:List zN):Prop:=∀(i j:Nat) (z z':zN),zs[i]?=some z→zs[j]?=some z'→i < j→z.m.id < z'.m.id
def zWz (zs:List zN):Prop:=∀z∈zs,0≤z.m.id∧z.m.id≤2199023255552
theorem gbs_walk (zs:List zN) (v:Value) (m:Int) (w:World) (h:zo w v zs) (hl:zs.length≤1000) (hr:uw zs) (hi:zWz zs) (hm:-1≤m∧m≤2199023255552):
  Calls Tryz.prog 256 #[v,.int .i64 m,.func (.func 257) #[] #[]] w (GBsPost zs m w):=by
 obtain ⟨oa,cap,rfl⟩:=id h.slice;have H:=zz h;have HP:=zz hr;have HL:=zz hi;clear h hr hi;go_enter Tryz.func256,Tryz.ntmps256
 go_wp2_with fail
 go_loopw [9,10] (fun i j wr=>∃a b:Nat,i=.int .i64 a∧j=.int .i64 b∧GBsMid zs m w a b wr) (fun i j _=>(intOf j - intOf i).toNat)
 case atStart=>exact ⟨0,zs.length,rfl,rfl,Nat.zero_le _,Nat.le_refl _,fun i k _ h=>absurd h (by omega),fun i k h h'=>by have:=(List.getElem?_eq_some_iff.1 h).1; omega,Fr.same _⟩
 case round=>
  obtain ⟨a,b,rfl,rfl,hm9⟩:=hrel;have hab:=hm9.ab;have hbn:=hm9.bn;have M:=zz hm9;clear hm9;by_cases hlt:a < b
  ·obtain ⟨h,hh⟩:∃h,h=(a+b) / 2:=⟨_,rfl⟩
   have hh2:((a:Int)+b) / 2=(h:Int):=by omega
   have hah:a≤h:=by omega
   have hhb:h < b:=by omega
   have HH:=zz hh;clear hh;obtain ⟨x,hx⟩:=zH (show h < zs.length by omega);obtain ⟨g,cap',hsl,hob,hat⟩:=(H.out.old M.out.fr).at hx;injection hsl with e1 e2 e3
   subst e1 e3;clear e2 hob;obtain ⟨c0,c1,c2,c3,c4⟩:=hat;have hxl:=HL.out x (List.mem_of_getElem? hx);have HX:=zz hx;have HC:=zz (zJx x m wr hxl hm);clear hx;unfold zIr at HC;by_cases hq:x.m.id < m
   ·have hq1:decide (x.m.id - m < 0)=true:=by simp; omega
    have HQ:=zz hq;clear hq;go_wp2_with fail
    refine HC.out.mono ?_;rintro e w' ⟨rfl,hf⟩;have F:=zz (M.out.fr.tr hf);clear hf HC c0 c1 c2 c3 c4;go_wp2_with fail
    go_roundw
    case rel=>exact ⟨h+1,b,by go_num,rfl,by omega,hbn,fun i k hk hi=>by
     rcases Nat.lt_or_ge i h with h9 | h9
     ·have:=HP.out i h k x hk HX.out h9
      have:=HQ.out
      omega
     ·obtain rfl:i=h:=by omega
      obtain rfl:=Option.some.inj (HX.out.symm.trans hk);exact HQ.out,M.out.hi,F.out⟩
    case measure=>simp [intOf]; omega
   ·have hq1:decide (x.m.id - m < 0)=false:=by simp; omega
    have HQ:=zz hq;clear hq;go_wp2_with fail
    refine HC.out.mono ?_;rintro e w' ⟨rfl,hf⟩;have F:=zz (M.out.fr.tr hf);clear hf HC c0 c1 c2 c3 c4;go_wp2_with fail
    go_roundw
    case rel=>exact ⟨a,h,rfl,rfl,hah,by omega,M.out.lo,fun i k hk hi=>by
     rcases Nat.lt_or_ge h i with h9 | h9
     ·have:=HP.out h i x k HX.out hk h9
      have:=HQ.out
      omega
     ·obtain rfl:i=h:=by omega
      obtain rfl:=Option.some.inj (HX.out.symm.trans hk)
      have:=HQ.out
      omega,F.out⟩
    case measure=>simp [intOf]; omega
  ·obtain rfl:a=b:=by omega
   rcases Nat.lt_or_ge a zs.length with hl2 | hl2
   ·obtain ⟨x,hx⟩:=zH hl2
    obtain ⟨g,cap',hsl,hob,hat⟩:=(H.out.old M.out.fr).at hx;injection hsl with e1 e2 e3
    subst e1 e3;clear e2 hob;obtain ⟨c0,c1,c2,c3,c4⟩:=hat;have hxl:=HL.out x (List.mem_of_getElem? hx);have HX:=zz hx;have HC:=zz (zJx x m wr hxl hm);clear hx;unfold zIr at HC;go_wp2_with fail
    refine HC.out.mono ?_;rintro e w' ⟨rfl,hf⟩;have F:=zz (M.out.fr.tr hf);clear hf HC c0 c1 c2 c3 c4;go_wp2_with fail
    go_ret2
    refine ⟨a,_,rfl,hbn,M.out.lo,M.out.hi,fun hf=>⟨x,HX.out,?_⟩,fun hf z hz=>?_,F.out⟩
    ·simp at hf
     omega
    ·obtain rfl:=Option.some.inj (HX.out.symm.trans hz)
     simp at hf;omega
   ·go_wp2_with fail
    go_ret2
    exact ⟨a,_,rfl,hbn,M.out.lo,M.out.hi,fun hf=>by simp at hf,fun _ z hz=>by have:=(List.getElem?_eq_some_iff.1 hz).1; omega,M.out.fr⟩
def GrpB (w:World) (gb:Nat) (se re ph ge nx un:Int) (v:Value):Prop:=w.heap[gb]?=some (.cells #[.int .i64 se,.int .i64 re,.int .i64 ph,.int .i64 ge,.int .i64 nx,.int .i64 un,v] 216 (0,0))
def zXa (zs:List zN) (v:Value) (m:Int) (w:World) (e:Ending) (w':World):Prop:=
 ((∃(b k:Nat) (z:zN),v.ownBlock=some b∧zs[k]?=some z∧z.m.id=m∧e=.returned (.pointer (some ⟨b,k * 5,none⟩)))∨(e=.returned (.pointer none)∧∀z∈zs,z.m.id≠m))∧Fr (fun _=>False) w w'
theorem yZ {gb:Nat} {se re ph ge nx un:Int} (zs:List zN) (v:Value) (m:Int) (w:World) (hb:GrpB w gb se re ph ge nx un v) (h:zo w v zs) (hl:zs.length≤1000) (hr:uw zs) (hi:zWz zs) (hm:-1≤m∧m≤2199023255552):
  Calls Tryz.prog 204 #[.pointer (some ⟨gb,0,none⟩),.int .i64 m] w (zXa zs v m w):=by
 have BS:=zz (gbs_walk zs v m w h hl hr hi hm);obtain ⟨oa,cap,rfl⟩:=id h.slice;have HB:=zz hb;have H:=zz h;have HR:=zz hr;have dx:=fun j=>zB hb j
 clear hb h hr hi;go_enter Tryz.func204,Tryz.ntmps204
 go_wp2_with fail
 refine BS.out.mono ?_;rintro e w2 ⟨r,f,rfl,hrl,hlo,hhi,hft,hff,f2⟩;have F2:=zz f2;have hx:(∃z,zs[r]?=some z∧z.m.id=m)∧f=true∨f=false∧∀z∈zs,z.m.id≠m:=by
  cases f with
  | true=>exact .inl ⟨hft rfl,rfl⟩
  | false=>
   refine .inr ⟨rfl,fun z hz=>?_⟩;obtain ⟨i,hi⟩:=List.mem_iff_getElem?.1 hz;rcases Nat.lt_or_ge i r with h1 | h1
   ·have:=hlo i z hi h1; omega
   ·rcases Nat.lt_or_ge r i with h2 | h2
    ·obtain ⟨y,hy⟩:=zH (show r < zs.length by have:=(List.getElem?_eq_some_iff.1 hi).1; omega)
     have:=HR.out r i y z hy hi h2
     have:=hhi r y hy (Nat.le_refl _)
     omega
    ·obtain rfl:i=r:=by omega
     exact hff rfl z hi
 have HX:=zz hx;have dy:=fun j=>zB ((F2.out.block _ (zA HB.out) fun h=>h).trans HB.out) j
 clear f2 hx hlo hhi hft hff BS dx;cases f with
 | true=>
  obtain ⟨z,hz,hzm⟩:∃z,zs[r]?=some z∧z.m.id=m:=HX.out.elim (fun h=>h.1) fun h=>by cases h.1
  obtain ⟨b,cap',hsl,hob,-⟩:=H.out.at hz;injection hsl with e1 e2 e3
  subst e1 e3;clear e2;have hlt:=(List.getElem?_eq_some_iff.1 hz).1;have HZ:=zz hz;have HM:=zz hzm;clear hz hzm;go_wp2_with fail
  go_ret
  exact ⟨.inl ⟨b,r,z,hob,HZ.out,HM.out,rfl⟩,F2.out⟩
 | false=>
  go_wp2_with fail
  go_ret
  exact ⟨.inr ⟨rfl,HX.out.elim (fun h=>by cases h.2) fun h=>h.2⟩,F2.out⟩
theorem p259:zHe 259 [] (fun z=>!z.m.jo) (fun _=>True):=by
 intro z w _;unfold zIr;go_enter Tryz.func259,Tryz.ntmps259
 go_wp2_with fail
 go_ret
 exact ⟨rfl,(Fr.same _).alloc _⟩
theorem p221:zHe 221 [] (fun z=>!z.m.jo) (fun _=>True):=by
 intro z w _;unfold zIr;go_enter Tryz.func221,Tryz.ntmps221
 go_wp2_with fail
 go_ret
 exact ⟨rfl,(Fr.same _).alloc _⟩
theorem p212 (b:Nat) (m:Int):zHe 212 [.pointer (some ⟨b,0,none⟩)] (fun z=>z.m.id == m) (fun w=>w.cell? ⟨b,0,none⟩=some (.int .i64 m)):=by
 intro z w hc;have dc:=((Fr.same w).alloc (.cells #[.int .i64 z.m.id,.slice z.ta z.tn z.tc,.int .i64 z.m.un,.bool z.m.jo,.slice z.pa z.pn z.pc] 266)).cell hc fun h=>h
 unfold zIr;clear hc;go_enter Tryz.func212,Tryz.ntmps212
 go_wp2_with fail
 go_ret
 exact ⟨rfl,(Fr.same _).alloc _⟩
end
section
variable {w w':World} {S K:Nat→Prop}
structure zf where
 se:Int
 re:Int
 ph:Int
 ge:Int
 nx:Int
 un:Int
 zs:List zN
structure zj where
 gb:Nat
 F:zf
 v:Value
 K:Nat→Prop
def ua (K:Nat→Prop) (w:World) (z:zN):Prop:=xS K w (.slice z.ta z.tn z.tc) z.m.tl∧xL K w (.slice z.pa z.pn z.pc) z.m.pl
structure zu (w:World) (d:zj):Prop where
 b:GrpB w d.gb d.F.se d.F.re d.F.ph d.F.ge d.F.nx d.F.un d.v
 rows:zo w d.v d.F.zs
 ok:∀z∈d.F.zs,ua d.K w z
 pos:0 < d.gb
 x1:d.v.ownBlock≠some d.gb
 x2:¬d.K d.gb
 x3:∀b,d.v.ownBlock=some b→¬d.K b
 lt:∀i,d.K i→0 < i∧i < w.heap.size
def zj.T (d:zj):Nat→Prop:=fun i=>i=d.gb∨d.v.ownBlock=some i∨d.K i
def zj.W (d:zj):Nat→Prop:=fun i=>i=d.gb∨d.v.ownBlock=some i
theorem ua.fr {z:zN} (h:ua K w z) (hf:Fr S w w') (hS:∀i,K i→¬S i):ua K w' z:=⟨h.1.fr hf hS,h.2.fr hf hS⟩
theorem zu.fr {d:zj} (h:zu w d) (hf:Fr S w w') (hS:∀i,d.T i→¬S i):zu w' d:=
 ⟨(hf.block _ (zA h.b) (hS _ (.inl rfl))).trans h.b,h.rows.fr hf fun k hk=>hS _ (.inr (.inl hk)),fun z hz=>(h.ok z hz).fr hf fun i hi=>hS _ (.inr (.inr hi)),h.pos,h.x1,h.x2,h.x3,fun i hi=>⟨(h.lt i hi).1,Nat.lt_of_lt_of_le (h.lt i hi).2 hf.size⟩⟩
theorem zu.old {d:zj} (h:zu w d) (hf:Fr (fun _=>False) w w'):zu w' d:=h.fr hf fun _ _ h=>h
theorem zu.reb {d:zj} (h:zu w d) (hf:Fr (fun i=>i=d.gb) w w') (F:zf) (hz:F.zs=d.F.zs) (hb:GrpB w' d.gb F.se F.re F.ph F.ge F.nx F.un d.v):zu w' { d with F:=F } :=
 ⟨hb,by rw [hz]; exact h.rows.fr hf fun k hk e=>h.x1 (by rw [hk,e]),fun z hm=>by rw [hz] at hm; exact (h.ok z hm).fr hf fun i hi e=>h.x2 (by rw [←e]; exact hi),h.pos,h.x1,h.x2,h.x3,fun i hi=>⟨(h.lt i hi).1,Nat.lt_of_lt_of_le (h.lt i hi).2 hf.size⟩⟩
theorem zu.row {d:zj} (h:zu w d) (hf:Fr (fun i=>d.v.ownBlock=some i) w w') (zs:List zN) (hr:zo w' d.v zs) (hk:∀z∈zs,ua d.K w' z):zu w' { d with F:= { d.F with zs:=zs } } :=
 ⟨(hf.block _ (zA h.b) h.x1).trans h.b,hr,hk,h.pos,h.x1,h.x2,h.x3,fun i hi=>⟨(h.lt i hi).1,Nat.lt_of_lt_of_le (h.lt i hi).2 hf.size⟩⟩
theorem zu.okf {d:zj} (h:zu w d) (hf:Fr d.W w w') {z:zN} (hz:z∈d.F.zs):ua d.K w' z:=(h.ok z hz).fr hf fun i hi e=>e.elim (fun e=>h.x2 (by rw [←e]; exact hi)) fun e=>h.x3 i e hi
def ji (p u:Int) (f:zf):zf:= { f with ph:=p,un:=u }
theorem jx {d:zj} (h:zu w d) (p u:Int):Calls Tryz.prog 222 #[.pointer (some ⟨d.gb,0,none⟩),.int .i64 p,.int .i64 u] w fun e w'=>e=.returned (.tuple #[])∧zu w' { d with F:=ji p u d.F } ∧Fr (fun i=>i=d.gb) w w':=by
 have f1:Fr (fun i=>i=d.gb) w (w.setCell ⟨d.gb,2,none⟩ (.int .i64 p)):=(Fr.refl (fun i=>i=d.gb) w).setCell (p:=⟨d.gb,2,none⟩) (.inl rfl) _;have f2:Fr (fun i=>i=d.gb) w ((w.setCell ⟨d.gb,2,none⟩ (.int .i64 p)).setCell ⟨d.gb,5,none⟩ (.int .i64 u)):=f1.setCell (p:=⟨d.gb,5,none⟩) (.inl rfl) _;have x1:=zE h.b (o:=2) (.int .i64 p);have x2:=zE x1 (o:=5) (.int .i64 u);have GA:=zz (h.reb f2 (ji p u d.F) rfl (x2.trans (show _=some (Obj.cells #[.int .i64 d.F.se,.int .i64 d.F.re,.int .i64 p,.int .i64 d.F.ge,.int .i64 d.F.nx,.int .i64 u,d.v] 216 (0,0)) from rfl)));have F2:=zz f2;have dx:=zB h.b 2;have dz:=zd h.b 2;have dy:=(zB x1 5).trans (show _=some (.int .i64 d.F.un) from rfl);have dw:=zd x1 5;clear f1 f2 x1 x2 h;go_enter Tryz.func222,Tryz.ntmps222
 go_wp2_with fail
 go_end0
 exact ⟨rfl,GA.out,F2.out⟩
def zBi (z:zN):zN:= { z with m:= { z.m with jo:=false,pl:=[] },pa:=none,pn:=0,pc:=0 }
def zh (now:Int) (f:zf):zf:=if f.zs=[] then ji 0 0 f else { ji 1 (now+f.re) f with zs:=f.zs.map zBi }
def ux (i:Nat) (zs:List zN):List zN:=(zs.take i).map zBi++zs.drop i
theorem zDz (i:Nat) (zs:List zN):(ux i zs).length=zs.length:=by simp [ux]; omega
theorem zOd {i:Nat} {zs:List zN} (hi:i < zs.length):(ux i zs)[i]?=zs[i]?:=by
 unfold ux;rw [List.getElem?_append_right (by simp; omega),List.getElem?_drop];congr 1
 simp;omega
theorem zXb {i:Nat} {zs:List zN} {z:zN} (hz:zs[i]?=some z):(ux i zs).set i (zBi z)=ux (i+1) zs:=by
 have hi:=(List.getElem?_eq_some_iff.1 hz).1;unfold ux;rw [List.set_append_right _ _ (by simp; omega),List.take_add_one,hz,List.drop_eq_getElem_cons hi,(List.getElem?_eq_some_iff.1 hz).2];simp [Nat.min_eq_left (Nat.le_of_lt hi)]
theorem anewL_ok {i:Nat} {zs:List zN} (h:∀z∈zs,ua K w z):∀z∈ux i zs,ua K w z:=by
 intro z hz;rcases List.mem_append.1 hz with h1 | h1
 ·obtain ⟨y,hy,rfl⟩:=List.mem_map.1 h1
  exact ⟨(h y (List.mem_of_mem_take hy)).1,xL.nil⟩
 ·exact h z (List.mem_of_mem_drop h1)
theorem zEa {d:zj} (h:zu w d) (now:Int) (hl:d.F.zs.length≤1000) (h1:0≤now∧now≤1099511627776) (h2:0≤d.F.re∧d.F.re≤100000):
  Calls Tryz.prog 205 #[.pointer (some ⟨d.gb,0,none⟩),.int .i64 now] w fun e w'=>e=.returned (.tuple #[])∧zu w' { d with F:=zh now d.F } ∧Fr d.W w w':=by
 obtain ⟨oa,cap,hv⟩:=id h.rows.slice;have G:=zz h;have HV:=zz hv;have dx:=fun j=>zB h.b j
 rw [hv] at dx;have E0:=zz (jx h 0 0);have E1:=zz (jx h 1 (now+d.F.re));by_cases hz:d.F.zs.length=0
 ·have hn:d.F.zs=[]:=List.eq_nil_of_length_eq_zero hz
  have HN:=zz hn;clear h hv hn;go_enter Tryz.func205,Tryz.ntmps205
  go_wp2_with fail
  refine E0.out.mono ?_;rintro e w2 ⟨rfl,g2,f2⟩;have G2:=zz g2;have F2:=zz f2;clear g2 f2 E0 E1;go_wp2_with fail
  try simp only [Exit.inBlock,Exit.then]
  refine bodyPost_ret (results_none rfl _ _ _) rfl ?_;refine ⟨rfl,?_,F2.out.mono fun i e=>.inl (.inl e)⟩;rw [zh,if_pos HN.out];exact G2.out
 ·have hn:d.F.zs≠[]:=fun e=>hz (by rw [e]; rfl)
  have HN:=zz hn;clear h hv hn;go_enter Tryz.func205,Tryz.ntmps205
  go_wp2_with fail
  refine E1.out.mono ?_;rintro e w2 ⟨rfl,g2,f2⟩;have G2:=zz g2;have F2:=zz f2;have dy:=fun j=>zB g2.b j
  dsimp only at dy;rw [HV.out] at dy;clear g2 f2 E0 E1 dx;go_wp2_with fail
  obtain ⟨z0,hz0⟩:=zH (l:=d.F.zs) (k:=0) (by omega);obtain ⟨b,cap',hsl,hob,-⟩:=G.out.rows.at hz0;rw [HV.out] at hsl;injection hsl with e1 e2 e3
  subst e1 e3;clear e2 hz0 z0;have HOB:=zz hob;clear hob;go_loopw [28] (fun i wr=>∃k:Nat,i=.int .i64 k∧k≤d.F.zs.length∧zu wr { d with F:= { ji 1 (now+d.F.re) d.F with zs:=ux k d.F.zs } } ∧Fr (fun i=>d.v.ownBlock=some i) w2 wr) (fun i _=>d.F.zs.length - (intOf i).toNat)
  case atStart=>exact ⟨0,rfl,Nat.zero_le _,by
   have:=G2.out
   unfold ji at this ⊢
   simpa [ux] using this,Fr.refl _ _⟩
  case round=>
   obtain ⟨k,rfl,hk,hg,hf⟩:=hrel;have GW:=zz hg;have FW:=zz hf;have dg:=(zB hg.b 6).trans (show _=some d.v from rfl);rw [HV.out] at dg;clear hg hf;rcases Nat.lt_or_ge k d.F.zs.length with hlt | hge
   ·obtain ⟨z,hz9⟩:=zH hlt
    have HZ:=zz hz9;have fd:Fr (fun _=>False) wr wr.drew:=(Fr.same wr).drew;have GD:=zz (GW.out.old fd);obtain ⟨b',cap',hsl,hob',hat⟩:=GD.out.rows.at ((zOd hlt).trans hz9);obtain rfl:b'=b:=Option.some.inj (hob'.symm.trans HOB.out);obtain ⟨-,-,-,c3,-⟩:=hat;have z3:=(GD.out.rows.there HOB.out (j:=k * 5+3) (by show _ < (ux k d.F.zs).length * 5; rw [zDz]; omega)).2;have R1:=GD.out.rows.set HOB.out (k:=k) (j:=3) (u:=.bool false) (z':= { z with m:= { z.m with jo:=false } }) ((zOd hlt).trans hz9) (by omega) rfl;have hz1:((ux k d.F.zs).set k { z with m:= { z.m with jo:=false } })[k]?=some { z with m:= { z.m with jo:=false } } :=List.getElem?_set_self (by rw [zDz]; exact hlt);obtain ⟨b9,-,-,hob9,hat9⟩:=R1.at hz1;obtain rfl:b9=b':=Option.some.inj (hob9.symm.trans HOB.out);have c4:=hat9.c4;have z4:=(R1.there HOB.out (j:=k * 5+4) (by rw [List.length_set,zDz]; omega)).2;have R2:=R1.set HOB.out (k:=k) (j:=4) (u:=.slice none 0 0) (z:= { z with m:= { z.m with jo:=false } }) (z':=zBi z) hz1 (by omega) rfl;rw [List.set_set,zXb hz9] at R2;have RR:=zz R2;have fs:Fr (fun i=>d.v.ownBlock=some i) wr ((wr.drew.setCell ⟨b9,k * 5+3,none⟩ (.bool false)).setCell ⟨b9,k * 5+4,none⟩ (.slice none 0 0)):=(((Fr.refl (fun i=>d.v.ownBlock=some i) wr).drew).setCell (p:=⟨b9,k * 5+3,none⟩) (.inl HOB.out) _).setCell (p:=⟨b9,k * 5+4,none⟩) (.inl HOB.out) _;have gn:=GW.out.row fs (ux (k+1) d.F.zs) R2 (anewL_ok fun y hy=>(G.out.ok y hy).fr (((F2.out.mono (S':=d.W) fun i e=>.inl (.inl e)).trans FW.out fun i e=>.inl (.inr e)).trans fs fun i e=>.inl (.inr e)) fun i hi e=>e.elim (fun e=>G.out.x2 (by rw [←e]; exact hi)) fun e=>G.out.x3 i e hi);have GN:=zz gn;have FN:=zz (FW.out.trans fs fun i e=>.inl e);clear hz1 hob9 hat9 R2 fs gn;clear hz9 hsl hob' R1;go_wp2_with fail
    have z6:∀y:Lcl.InS (fun w'=>Fr (fun _=>False) wr w'),y.w.cell? ⟨d.gb,6,none⟩=some (.slice (some ⟨b9,0,none⟩) d.F.zs.length cap):=fun y=>y.h.cel dg
    refine Lcl.wp_region_calm (by kernel_rfl) [(true,[0,1,2,3,5,6,7,8,9,11]),(false,[4,10]),(true,[12,13])] #[0,1,3,7,15,0,0,64,192,448,960,0,2047,6143,14335,32767,65535,131071] [0,1,2,3,4,5,6,7,8,9,10,11] 4 #[true,true,true,true,true,true,true,true,true,true,true,true,true,true,false,false,false,false] (by kernel_rfl) (by kernel_rfl) (by kernel_rfl) (fun w'=>Fr (fun _=>False) wr w') (Fr.same wr).drew (fun d c a v w h=>by cases d <;> exact h) ?_;simp only [Lcl.opsOf,List.map_cons,List.map_nil,List.getElem?_toArray,List.getElem?_cons_succ,List.getElem?_cons_zero,Option.getD_some];refine Lcl.wpCalm_t ?_
    repeat (go_big_quiet_step (rfl))
    refine wpQuiet_nil ?_;refine Lcl.wpCalm_f ?_
    repeat (go_big_quiet_step (rfl))
    refine wpQuiet_nil ?_;refine Lcl.wpCalm_t ?_
    repeat (go_big_quiet_step (rfl))
    refine wpQuiet_nil ?_;refine Lcl.wpCalm_nil ?_;clear z6;have FD:=zz fd;clear fd;generalize wr.drew=wd at *;refine Lcl.wpG_run [14,15,16,17] _ _ _ (by kernel_rfl) ?_;simp only [List.map_cons,List.map_nil,List.getElem?_toArray,List.getElem?_cons_succ,List.getElem?_cons_zero,Option.getD_some];go_wp2_with fail
    go_roundw
    case rel=>exact ⟨k+1,by go_num,by omega,GN.out,FN.out⟩
    case measure=>simp [intOf]; omega
   ·obtain rfl:k=d.F.zs.length:=by omega
    go_wp2_with fail
    go_end0
    refine ⟨rfl,?_,(F2.out.mono (S':=d.W) fun i e=>.inl (.inl e)).trans FW.out fun i e=>.inl (.inr e)⟩;rw [zh,if_neg HN.out];have h9:=GW.out;have e9:ux d.F.zs.length d.F.zs=d.F.zs.map zBi:=by simp [ux]
    rw [e9] at h9;exact h9
end
end Go.Proofs.YtfdhofabgdkkkaaGreatDoor

/- A part of the proof that what the machine is told keeps its bounds. -/
import Derived.Test.YtfdhofabgdkkkaaGreatDoorJ25
set_option maxHeartbeats 128000000
set_option maxRecDepth 100000
namespace Go.Proofs.YtfdhofabgdkkkaaGreatDoor
open Lib renaming hid→zz
open Go.RowKit Go.Fm Go.BigFrame Go.Shelf Go.Maps
set_option linter.unusedVariables false
set_option linter.unusedSimpArgs false
section
variable {w w':World} {S K:Nat→Prop}
theorem eg259:∀args w,(callFunc 259 args).run Tryz.prog w=.ok (.enter 259 args) w:=enters_of Tryz.func259 (by kernel_rfl) rfl
theorem eg221:∀args w,(callFunc 221 args).run Tryz.prog w=.ok (.enter 221 args) w:=enters_of Tryz.func221 (by kernel_rfl) rfl
theorem eg212:∀args w,(callFunc 212 args).run Tryz.prog w=.ok (.enter 212 args) w:=enters_of Tryz.func212 (by kernel_rfl) rfl
theorem zu.newv {d:zj} (h:zu w d) (hf:Fr d.W w w') (F:zf) {v:Value} (ho:v.ownBlock=d.v.ownBlock) (hr:zo w' v F.zs) (hk:∀z∈F.zs,z∈d.F.zs) (hb:GrpB w' d.gb F.se F.re F.ph F.ge F.nx F.un v):zu w' { d with F:=F,v:=v } :=
 ⟨hb,hr,fun z hz=>h.okf hf (hk z hz),h.pos,by show v.ownBlock≠_; rw [ho]; exact h.x1,h.x2,fun b hb=>h.x3 b (by rw [←ho]; exact hb),fun i hi=>⟨(h.lt i hi).1,Nat.lt_of_lt_of_le (h.lt i hi).2 hf.size⟩⟩
theorem W_eq {d:zj} {F:zf} {v:Value} (ho:v.ownBlock=d.v.ownBlock):∀i,({ d with F:=F,v:=v } :zj).W i→d.W i:=fun i h=>h.imp id fun h=>by rw [←ho]; exact h
theorem jN {d:zj} (h:zu w d) (hl:d.F.zs.length≤1000):Calls Tryz.prog 207 #[.pointer (some ⟨d.gb,0,none⟩)] w (xG (!(d.F.zs.any fun z=>!z.m.jo)) w):=by
 have CW:=zz (zWx eg259 p259 (fun _ _ _ _=>trivial) d.F.zs d.v h.rows hl trivial);obtain ⟨oa,cap,hv⟩:=id h.rows.slice;have dx:=fun j=>zB h.b j
 rw [hv] at dx CW;clear h;go_enter Tryz.func207,Tryz.ntmps207
 go_wp2_with fail
 refine CW.out.mono ?_;rintro e w2 ⟨rfl,f2⟩;have F2:=zz f2;clear f2 CW;go_wp2_with fail
 go_ret
 exact ⟨rfl,F2.out⟩
def ub (zs:List zN):List zN:=zs.filter fun z=>!(fun z:zN=>!z.m.jo) z
def uX (now:Int) (f:zf):zf:=if ub f.zs=[] then ji 0 0 { f with zs:=ub f.zs } else ji 2 (now+f.re) { f with zs:=ub f.zs,ge:=f.ge+1 }
def zLp (d:zj) (F:zf) (w:World) (e:Ending) (w':World):Prop:=e=.returned (.tuple #[])∧∃v,v.ownBlock=d.v.ownBlock∧zu w' { d with F:=F,v:=v } ∧Fr d.W w w'
theorem uy {d:zj} (h:zu w d) (now:Int) (hl:d.F.zs.length≤1000) (h1:0≤now∧now≤1099511627776) (h2:0≤d.F.re∧d.F.re≤100000) (h3:0≤d.F.ge∧d.F.ge≤1099511627776):
  Calls Tryz.prog 160 #[.pointer (some ⟨d.gb,0,none⟩),.int .i64 now] w (zLp d (uX now d.F) w):=by
 have DW:=zz (zJw (g:=221) (lb:=[]) eg221 p221 d.F.zs d.v (C:=fun _=>True) (fun _ _ _ _=>trivial) h.rows hl trivial);have G:=zz h;obtain ⟨oa,cap,hv⟩:=id h.rows.slice;have HV:=zz hv;have dx:=fun j=>zB h.b j
 rw [hv] at dx DW;clear h hv;go_enter Tryz.func160,Tryz.ntmps160
 go_wp2_with fail
 refine DW.out.mono ?_;rintro e w2 ⟨v2,rfl,r2,ho2,f2⟩;rw [←HV.out] at ho2 f2;have e9:(d.F.zs.filter fun z=>!(!z.m.jo))=ub d.F.zs:=rfl;rw [e9] at r2;clear e9;obtain ⟨ob2,cap2,hv2⟩:=id r2.slice;subst hv2;have b2:=(f2.block _ (zA G.out.b) G.out.x1).trans G.out.b;have f3:Fr (fun i=>i=d.gb) w2 (w2.setCell ⟨d.gb,6,none⟩ (.slice ob2 (ub d.F.zs).length cap2)):=(Fr.refl (fun i=>i=d.gb) w2).setCell (p:=⟨d.gb,6,none⟩) (.inl rfl) _;have b3:=zE b2 (o:=6) (.slice ob2 (ub d.F.zs).length cap2);have fw3:Fr d.W w (w2.setCell ⟨d.gb,6,none⟩ (.slice ob2 (ub d.F.zs).length cap2)):=(f2.mono fun i e=>.inl (.inr e)).trans f3 fun i e=>.inl (.inl e)
 have g3:=G.out.newv fw3 { d.F with zs:=ub d.F.zs } ho2 (r2.fr f3 fun k hk e=>G.out.x1 (by rw [←ho2,hk,e])) (fun z hz=>(List.mem_filter.1 hz).1) (b3.trans (show _=some (Obj.cells #[.int .i64 d.F.se,.int .i64 d.F.re,.int .i64 d.F.ph,.int .i64 d.F.ge,.int .i64 d.F.nx,.int .i64 d.F.un,.slice ob2 (ub d.F.zs).length cap2] 216 (0,0)) from rfl));have G3:=zz g3;have F3:=zz fw3;have HO:=zz ho2;have dx:=fun j=>zB b2 j
 have dz:=zd b2 6;have dy:=fun j=>zB g3.b j
 dsimp only at dy;clear r2 f2 f3 b3 fw3 g3 DW ho2;generalize hnn:(ub d.F.zs).length=n at *;have NN:=zz hnn;clear hnn;by_cases hn:n=0
 ·subst hn
  have E0:=zz (jx G3.out 0 0);dsimp only at E0;have HN:=zz (List.eq_nil_of_length_eq_zero NN.out);go_wp2_with fail
  refine E0.out.mono ?_;rintro e w4 ⟨rfl,g4,f4⟩;have G4:=zz g4;have F4:=zz (F3.out.trans f4 fun i e=>.inl (.inl e));clear g4 f4 E0;go_wp2_with fail
  try simp only [Exit.inBlock,Exit.then]
  refine bodyPost_ret (results_none rfl _ _ _) rfl ?_;refine ⟨rfl,_,HO.out,?_,F4.out⟩;rw [uX,if_pos HN.out];exact G4.out
 ·have f4:Fr (fun i=>i=d.gb) (w2.setCell ⟨d.gb,6,none⟩ (.slice ob2 n cap2)) ((w2.setCell ⟨d.gb,6,none⟩ (.slice ob2 n cap2)).setCell ⟨d.gb,3,none⟩ (.int .i64 (d.F.ge+1))):=(Fr.refl (fun i=>i=d.gb) _).setCell (p:=⟨d.gb,3,none⟩) (.inl rfl) _
  have b4:=zE G3.out.b (o:=3) (.int .i64 (d.F.ge+1));have g4:=G3.out.reb f4 { d.F with zs:=ub d.F.zs,ge:=d.F.ge+1 } rfl (b4.trans (show _=some (Obj.cells #[.int .i64 d.F.se,.int .i64 d.F.re,.int .i64 d.F.ph,.int .i64 (d.F.ge+1),.int .i64 d.F.nx,.int .i64 d.F.un,.slice ob2 n cap2] 216 (0,0)) from rfl));have dw:=fun j=>zB g4.b j
  dsimp only at dw;have dz3:=zd G3.out.b 3;dsimp only at dz3;have E1:=zz (jx g4 2 (now+d.F.re));dsimp only at E1;have F4:=zz (F3.out.trans f4 fun i e=>.inl (.inl e));have HN:=zz (show ub d.F.zs≠[] from fun e=>hn (by rw [←NN.out,e]; rfl));clear f4 b4 g4;go_wp2_with fail
  refine E1.out.mono ?_;rintro e w5 ⟨rfl,g5,f5⟩;have G5:=zz g5;have F5:=zz (F4.out.trans f5 fun i e=>.inl (.inl e));clear g5 f5 E1;go_wp2_with fail
  go_end0
  refine ⟨rfl,_,HO.out,?_,F5.out⟩;rw [uX,if_neg HN.out];exact G5.out
end
section
variable {w w':World} {S K:Nat→Prop}
def yW (p:zN→Bool) (zs:List zN):List zN:=zs.filter fun z=>!p z
def uz (now:Int) (p:zN→Bool) (f:zf):zf:=
 if (yW p f.zs).length=f.zs.length then { f with zs:=yW p f.zs }
 else if f.ph≠1∨(yW p f.zs).length=0 then zh now { f with zs:=yW p f.zs }
 else if ((yW p f.zs).any fun z=>!z.m.jo)=true then { f with zs:=yW p f.zs } else uX now { f with zs:=yW p f.zs }
theorem keepL_le (p:zN→Bool) (zs:List zN):(yW p zs).length≤zs.length:=List.length_filter_le _ _
theorem zXc {g:Nat} {lb:List Value} {p:zN→Bool} {C:World→Prop} {d:zj} (eg:∀args w,(callFunc g args).run Tryz.prog w=.ok (.enter g args) w) (hP:zHe g lb p C) (hC:∀w w',C w→Fr (fun i=>d.v.ownBlock=some i) w w'→C w')
  (h:zu w d) (now:Int) (hl:d.F.zs.length≤1000) (h1:0≤now∧now≤1099511627776) (h2:0≤d.F.re∧d.F.re≤100000) (h3:0≤d.F.ge∧d.F.ge≤1099511627776) (hc:C w):
  Calls Tryz.prog 158 #[.pointer (some ⟨d.gb,0,none⟩),.int .i64 now,.func (.func g) #[] lb.toArray] w (zLp d (uz now p d.F) w):=by
 have DW:=zz (zJw eg hP d.F.zs d.v hC h.rows hl hc);have G:=zz h;obtain ⟨oa,cap,hv⟩:=id h.rows.slice;have HV:=zz hv;have dx:=fun j=>zB h.b j
 rw [hv] at dx DW;clear h hv hc;go_enter Tryz.func158,Tryz.ntmps158
 go_wp2_with fail
 refine DW.out.mono ?_;rintro e w2 ⟨v2,rfl,r2,ho2,f2⟩;rw [←HV.out] at ho2 f2;have e9:(d.F.zs.filter fun z=>!p z)=yW p d.F.zs:=rfl;rw [e9] at r2;clear e9;obtain ⟨ob2,cap2,hv2⟩:=id r2.slice;subst hv2;have b2:=(f2.block _ (zA G.out.b) G.out.x1).trans G.out.b;have f3:Fr (fun i=>i=d.gb) w2 (w2.setCell ⟨d.gb,6,none⟩ (.slice ob2 (yW p d.F.zs).length cap2)):=(Fr.refl (fun i=>i=d.gb) w2).setCell (p:=⟨d.gb,6,none⟩) (.inl rfl) _;have b3:=zE b2 (o:=6) (.slice ob2 (yW p d.F.zs).length cap2);have fw3:Fr d.W w (w2.setCell ⟨d.gb,6,none⟩ (.slice ob2 (yW p d.F.zs).length cap2)):=(f2.mono fun i e=>.inl (.inr e)).trans f3 fun i e=>.inl (.inl e)
 have g3:=G.out.newv fw3 { d.F with zs:=yW p d.F.zs } ho2 (r2.fr f3 fun k hk e=>G.out.x1 (by rw [←ho2,hk,e])) (fun z hz=>(List.mem_filter.1 hz).1) (b3.trans (show _=some (Obj.cells #[.int .i64 d.F.se,.int .i64 d.F.re,.int .i64 d.F.ph,.int .i64 d.F.ge,.int .i64 d.F.nx,.int .i64 d.F.un,.slice ob2 (yW p d.F.zs).length cap2] 216 (0,0)) from rfl));have G3:=zz g3;have F3:=zz fw3;have HO:=zz ho2;have dx:=fun j=>zB b2 j
 have dz:=zd b2 6;have dy:=fun j=>zB g3.b j
 dsimp only at dy;have hkl:=keepL_le p d.F.zs;clear r2 f2 f3 b3 fw3 g3 DW ho2;generalize hnn:(yW p d.F.zs).length=n at *;have NN:=zz hnn;clear hnn;by_cases ha:n=d.F.zs.length
 ·subst ha
  go_wp2_with fail
  go_end0
  refine ⟨rfl,_,HO.out,?_,F3.out⟩;rw [uz,if_pos NN.out];exact G3.out
 ·have ha2:((n:Int) == (d.F.zs.length:Int))=false:=by rw [beq_eq_false_iff_ne]; omega
  have HA:=zz ha;clear ha;have AN:=zz (zEa G3.out now (by show (yW p d.F.zs).length≤1000; rw [NN.out]; omega) h1 h2);dsimp only at AN;by_cases hb:d.F.ph≠1∨n=0
  ·have hb2:((d.F.ph != 1)=true)∨((d.F.ph != 1)=false∧n=0):=by
    by_cases hp1:d.F.ph=1
    ·exact .inr ⟨by rw [hp1]; rfl,hb.elim (fun h=>absurd hp1 h) id⟩
    ·exact .inl (by rw [bne_iff_ne]; exact hp1)
   have HB:=zz hb;clear hb;have fin:∀e w4,(e=Ending.returned (.tuple #[])∧zu w4 { d with F:=zh now { d.F with zs:=yW p d.F.zs },v:=.slice ob2 n cap2 } ∧Fr ({ d with F:= { d.F with zs:=yW p d.F.zs },v:=.slice ob2 n cap2 } :zj).W (w2.setCell ⟨d.gb,6,none⟩ (.slice ob2 n cap2)) w4)→zLp d (uz now p d.F) w e w4:=by
    rintro e w4 ⟨rfl,g4,f4⟩;refine ⟨rfl,_,HO.out,?_,F3.out.trans f4 fun i hi=>.inl (W_eq HO.out i hi)⟩;rw [uz,if_neg (by rw [NN.out]; exact HA.out),if_pos (by rw [NN.out]; exact HB.out)];exact g4
   have FIN:=zz fin;clear fin;rcases hb2 with hb2 | ⟨hb2,rfl⟩
   ·go_wp2_with fail
    refine AN.out.mono ?_;rintro e w4 hh;obtain rfl:=hh.1;have HH:=zz hh;clear hh AN;go_wp2_with fail
    go_end0
    exact FIN.out _ _ ⟨rfl,HH.out.2⟩
   ·go_wp2_with fail
    refine AN.out.mono ?_;rintro e w4 hh;obtain rfl:=hh.1;have HH:=zz hh;clear hh AN;go_wp2_with fail
    go_end0
    exact FIN.out _ _ ⟨rfl,HH.out.2⟩
  ·have hp1:d.F.ph=1:=Decidable.byContradiction fun h=>hb (.inl h)
   have hn0:¬n=0:=fun h=>hb (.inr h)
   have hn1:((n:Int) == 0)=false:=by rw [beq_eq_false_iff_ne]; omega
   have HB:=zz hb;have CM:=zz (jN G3.out (by show (yW p d.F.zs).length≤1000; rw [NN.out]; omega));dsimp only at CM;rw [hp1] at dx dy;clear hb AN;go_wp2_with fail
   refine CM.out.mono ?_;rintro e w4 ⟨rfl,f4⟩;have G4:=zz (G3.out.old f4);have F4:=zz (F3.out.trans f4 fun _ h=>h.elim);clear f4 CM;obtain ⟨cb,hcb⟩:∃cb,cb=(yW p d.F.zs).any fun z=>!z.m.jo:=⟨_,rfl⟩
   rw [←hcb];have HCB:=zz hcb;clear hcb;cases cb with
   | true=>
    go_wp2_with fail
    go_end0
    refine ⟨rfl,_,HO.out,?_,F4.out⟩;rw [uz,if_neg (by rw [NN.out]; exact HA.out),if_neg (by rw [NN.out]; exact HB.out),if_pos HCB.out.symm];exact G4.out
   | false=>
    have CL:=zz (uy G4.out now (by show (yW p d.F.zs).length≤1000; rw [NN.out]; omega) h1 h2 h3);dsimp only at CL;go_wp2_with fail
    refine CL.out.mono ?_;rintro e w5 hh;obtain rfl:=hh.1;have HH:=zz hh;clear hh CL;go_wp2_with fail
    go_end0
    obtain ⟨-,v5,ho5,g5,f5⟩:=HH.out;refine ⟨rfl,v5,ho5.trans HO.out,?_,F4.out.trans f5 fun i hi=>.inl (W_eq HO.out i hi)⟩;rw [uz,if_neg (by rw [NN.out]; exact HA.out),if_neg (by rw [NN.out]; exact HB.out),if_neg (by rw [←HCB.out]; simp)];exact g5
end
section
variable {w w':World} {S K:Nat→Prop}
structure yL (f:zf) (N:Nat):Prop where
 se:1≤f.se∧f.se≤100000
 re:1≤f.re∧f.re≤100000
 ph:0≤f.ph∧f.ph≤3
 ge:0≤f.ge∧f.ge≤N
 nx:0≤f.nx∧f.nx≤N
 un:0≤f.un∧f.un≤1099511727776
 len:f.zs.length≤20
 rise:uw f.zs
 ids:∀z∈f.zs,0≤z.m.id∧z.m.id < f.nx
 some':f.ph=2→f.zs≠[]
theorem yL.idz {f:zf} {N:Nat} (h:yL f N) (hN:N≤1000000):zWz f.zs:=fun z hz=>⟨(h.ids z hz).1,by have:=(h.ids z hz).2; have:=h.nx.2; omega⟩
theorem jW (now:Int):Calls Tryz.prog 157 #[.int .i64 now] w fun e w'=>e=.returned (.bool (decide (0≤now∧now≤1099511627776)))∧w'=w:=by
 go_enter Tryz.func157,Tryz.ntmps157
 by_cases h:0≤now
 ·by_cases h2:now≤1099511627776
  ·go_wp2_with fail
   go_ret
   refine ⟨?_,rfl⟩;rw [decide_eq_true ⟨h,h2⟩];simp [h,h2]
  ·go_wp2_with fail
   go_ret
   refine ⟨?_,rfl⟩;rw [decide_eq_false (by omega)];simp [h,h2]
 ·go_wp2_with fail
  go_ret
  refine ⟨?_,rfl⟩;rw [decide_eq_false (by omega)];simp [h]
def zXd (d:zj) (m gen:Int) (w:World) (e:Ending) (w':World):Prop:=
 ((∃(b k:Nat) (z:zN),d.v.ownBlock=some b∧d.F.zs[k]?=some z∧z.m.id=m∧gen=d.F.ge∧e=.returned (.tuple #[.pointer (some ⟨b,k * 5,none⟩),.int .i64 0]))
  ∨((∀z∈d.F.zs,z.m.id≠m)∧e=.returned (.tuple #[.pointer none,.int .i64 11]))
  ∨((∃z∈d.F.zs,z.m.id=m)∧gen≠d.F.ge∧e=.returned (.tuple #[.pointer none,.int .i64 10])))∧Fr (fun _=>False) w w'
theorem zBu {d:zj} (h:zu w d) {N:Nat} (hi:yL d.F N) (hN:N≤1000000) (m gen:Int) (hm:-1≤m∧m≤2199023255552):
  Calls Tryz.prog 210 #[.pointer (some ⟨d.gb,0,none⟩),.int .i64 m,.int .i64 gen] w (zXd d m gen w):=by
 have FW:=zz (yZ d.F.zs d.v m w h.b h.rows (by have:=hi.len; omega) hi.rise (hi.idz hN) hm);have G:=zz h;clear h;go_enter Tryz.func210,Tryz.ntmps210
 go_wp2_with fail
 refine FW.out.mono ?_;rintro e w2 ⟨hcase,f2⟩;have F2:=zz f2;have dx:=fun j=>zB (G.out.old f2).b j
 clear f2 FW;rcases hcase with ⟨b,k,z,hob,hz,hzm,rfl⟩ | ⟨rfl,hno⟩
 ·have HOB:=zz hob
  have HZ:=zz hz;have HM:=zz hzm;clear hob hz hzm;by_cases hg:gen=d.F.ge
  ·have hg1:(gen != d.F.ge)=false:=by rw [hg]; simp
   have HG:=zz hg;clear hg;go_wp2_with fail
   go_ret2
   exact ⟨.inl ⟨b,k,z,HOB.out,HZ.out,HM.out,HG.out,rfl⟩,F2.out⟩
  ·have hg1:(gen != d.F.ge)=true:=by rw [bne_iff_ne]; exact hg
   have HG:=zz hg;clear hg;go_wp2_with fail
   go_ret2
   exact ⟨.inr (.inr ⟨⟨z,List.mem_of_getElem? HZ.out,HM.out⟩,HG.out,rfl⟩),F2.out⟩
 ·have NO:=zz hno
  clear hno;go_wp2_with fail
  go_ret2
  exact ⟨.inr (.inl ⟨NO.out,rfl⟩),F2.out⟩
end
section
variable {w w':World} {S K:Nat→Prop}
def xj (m gen:Int) (f:zf):Int:=if (f.zs.any fun z=>z.m.id == m)=false then 11 else if gen=f.ge then 0 else 10
theorem jX {m gen:Int} {f:zf} {z:zN} (h:z∈f.zs) (hm:z.m.id=m):xj m gen f=if gen=f.ge then 0 else 10:=by
 rw [xj,if_neg (by rw [List.any_eq_true.2 ⟨z,h,by simp [hm]⟩]; simp)]
theorem zAb {m gen:Int} {f:zf} (h:∀z∈f.zs,z.m.id≠m):xj m gen f=11:=by
 rw [xj,if_pos (List.any_eq_false.2 fun z hz=>by simp [h z hz])]
def zBv (m gen:Int) (f:zf):Int:=if xj m gen f=0∧f.ph=1 then 13 else xj m gen f
def zXe (d:zj) (m gen:Int) (w:World) (e:Ending) (w':World):Prop:=e=.returned (.int .i64 (zBv m gen d.F))∧Fr (fun _=>False) w w'
theorem zRe {d:zj} (h:zu w d) {N:Nat} (hi:yL d.F N) (hN:N≤1000000) (m gen:Int) (hm:-1≤m∧m≤2199023255552):
  Calls Tryz.prog 145 #[.pointer (some ⟨d.gb,0,none⟩),.int .i64 m,.int .i64 gen] w (zXe d m gen w):=by
 have KW:=zz (zBu h hi hN m gen hm);have G:=zz h;clear h;go_enter Tryz.func145,Tryz.ntmps145
 go_wp2_with fail
 refine KW.out.mono ?_;rintro e w2 ⟨hcase,f2⟩;have F2:=zz f2;have dx:=(zB (G.out.old f2).b 2).trans (show _=some (Value.int .i64 d.F.ph) from rfl);clear f2 KW;rcases hcase with ⟨b,k,z,hob,hz,hzm,hg,rfl⟩ | ⟨hno,rfl⟩ | ⟨⟨z,hz,hzm⟩,hg,rfl⟩
 ·have KF:=zz (show xj m gen d.F=0 by rw [jX (List.mem_of_getElem? hz) hzm,if_pos hg])
  clear hz hzm hg;by_cases hp:d.F.ph=1
  ·have hp1:(d.F.ph == 1)=true:=by rw [hp]; rfl
   have HP:=zz hp;clear hp;go_wp2_with fail
   go_ret
   exact ⟨by rw [zBv,if_pos ⟨KF.out,HP.out⟩]; rfl,F2.out⟩
  ·have hp1:(d.F.ph == 1)=false:=by rw [beq_eq_false_iff_ne]; exact hp
   have HP:=zz hp;clear hp;go_wp2_with fail
   go_ret
   exact ⟨by rw [zBv,if_neg (fun h=>HP.out h.2),KF.out]; rfl,F2.out⟩
 ·have KF:=zz (zAb (gen:=gen) hno)
  clear hno;go_wp2_with fail
  go_ret
  exact ⟨by rw [zBv,KF.out]; rfl,F2.out⟩
 ·have KF:=zz (show xj m gen d.F=10 by rw [jX hz hzm,if_neg hg])
  clear hz hzm hg;go_wp2_with fail
  go_ret
  exact ⟨by rw [zBv,KF.out]; rfl,F2.out⟩
def onZ (m:Int) (t:zN→zN) (zs:List zN):List zN:=zs.map fun z=>if z.m.id=m then t z else z
theorem zCx {m:Int} {t:zN→zN} {zs:List zN} (hr:uw zs) {k:Nat} {z:zN} (hz:zs[k]?=some z) (hm:z.m.id=m):zs.set k (t z)=onZ m t zs:=by
 apply List.ext_getElem?
 intro i;unfold onZ;rw [List.getElem?_map,List.getElem?_set];by_cases hk:k=i
 ·subst hk
  have hlt:=(List.getElem?_eq_some_iff.1 hz).1;rw [if_pos rfl,if_pos hlt,hz,Option.map_some,if_pos hm]
 ·rw [if_neg hk]
  cases hy:zs[i]? with
  | none=>rfl
  | some y=>
   rw [Option.map_some,if_neg];intro hym;rcases Nat.lt_or_ge i k with h1 | h1
   ·have:=hr i k y z hy hz h1; omega
   ·have:=hr k i z y hz hy (by omega); omega
def yT (m now:Int) (f:zf):zf:= { f with zs:=onZ m (fun z=> { z with m:= { z.m with un:=now+f.se } }) f.zs }
theorem uD (m:Int) (t:zN→zN) (zs:List zN):(onZ m t zs).length=zs.length:=List.length_map ..
theorem vM {m:Int} {t:zN→zN} {zs:List zN} {y:zN} (h:y∈onZ m t zs):y∈zs∨∃z∈zs,z.m.id=m∧y=t z:=by
 obtain ⟨z,hz,rfl⟩:=List.mem_map.1 h;by_cases hm:z.m.id=m
 ·rw [if_pos hm]; exact .inr ⟨z,hz,hm,rfl⟩
 ·rw [if_neg hm]; exact .inl hz
theorem zu.touch {d:zj} (h:zu w d) (hr:uw d.F.zs) {b k:Nat} {z:zN} {m:Int} (hob:d.v.ownBlock=some b) (hz:d.F.zs[k]?=some z) (hm:z.m.id=m) (now:Int):
  zu (w.setCell ⟨b,k * 5+2,none⟩ (.int .i64 (now+d.F.se))) { d with F:=yT m now d.F } ∧Fr (fun i=>d.v.ownBlock=some i) w (w.setCell ⟨b,k * 5+2,none⟩ (.int .i64 (now+d.F.se)))∧w.cell? ⟨b,k * 5+2,none⟩=some (.int .i64 z.m.un)∧w.frozen? ⟨b,k * 5+2,none⟩=false:=by
 have fs:Fr (fun i=>d.v.ownBlock=some i) w (w.setCell ⟨b,k * 5+2,none⟩ (.int .i64 (now+d.F.se))):=zo.frame d.v hob w _ _;have R:=h.rows.set hob (k:=k) (j:=2) (u:=.int .i64 (now+d.F.se)) (z':= { z with m:= { z.m with un:=now+d.F.se } }) hz (by omega) rfl;have e:=zCx (t:=fun z=> { z with m:= { z.m with un:=now+d.F.se } }) hr hz hm;obtain ⟨b',-,-,hob',hat⟩:=h.rows.at hz;obtain rfl:b'=b:=Option.some.inj (hob'.symm.trans hob);refine ⟨h.row fs _ (by rw [←e]; exact R) fun y hy=>?_,fs,hat.c2,(h.rows.there hob (by have:=(List.getElem?_eq_some_iff.1 hz).1; omega)).2⟩;rcases vM hy with h1 | ⟨x,h1,-,rfl⟩
 ·exact h.okf (fs.mono fun i e=>.inl (.inr e)) h1
 ·have h9:=h.okf (fs.mono fun i e=>.inl (.inr e)) h1
  exact ⟨h9.1,h9.2⟩
def zOe (d:zj) (m gen now:Int) (w:World) (e:Ending) (w':World):Prop:=
 (¬(0≤now∧now≤1099511627776)∧e=.returned (.int .i64 1)∧Fr (fun _=>False) w w')
 ∨((0≤now∧now≤1099511627776)∧xj m gen d.F≠0∧e=.returned (.int .i64 (xj m gen d.F))∧Fr (fun _=>False) w w')
 ∨((0≤now∧now≤1099511627776)∧xj m gen d.F=0∧e=.returned (.int .i64 (if d.F.ph=3 then 0 else 13))∧zu w' { d with F:=yT m now d.F } ∧Fr d.W w w')
theorem zXf {d:zj} (h:zu w d) {N:Nat} (hi:yL d.F N) (hN:N≤1000000) (m gen now:Int) (hm:-1≤m∧m≤2199023255552):
  Calls Tryz.prog 143 #[.pointer (some ⟨d.gb,0,none⟩),.int .i64 m,.int .i64 gen,.int .i64 now] w (zOe d m gen now w):=by
 have G:=zz h;have IT:=zz (jW (w:=w) now);have KW:=zz (zBu h hi hN m gen hm);have RS:=zz hi.rise;have hse:=hi.se;clear h;by_cases hn:0≤now∧now≤1099511627776
 ·rw [decide_eq_true hn] at IT
  have hn1:=hn.1;have hn2:=hn.2;have HN:=zz hn;clear hn;go_enter Tryz.func143,Tryz.ntmps143
  go_wp2_with fail
  refine IT.out.mono ?_;rintro e w1 ⟨rfl,rfl⟩;clear IT;go_wp2_with fail
  refine KW.out.mono ?_;rintro e w2 ⟨hcase,f2⟩;have F2:=zz f2;have G2:=zz (G.out.old f2);have dx:=fun j=>zB (G.out.old f2).b j
  clear f2 KW;rcases hcase with ⟨b,k,z,hob,hz,hzm,hg,rfl⟩ | ⟨hno,rfl⟩ | ⟨⟨z,hz,hzm⟩,hg,rfl⟩
  ·have KF:=zz (show xj m gen d.F=0 by rw [jX (List.mem_of_getElem? hz) hzm,if_pos hg])
   obtain ⟨g3,f3,c3,z3⟩:=G2.out.touch RS.out hob hz hzm now;have G3:=zz g3;have F3:=zz ((F2.out.mono (S':=d.W) fun _ h=>h.elim).trans f3 fun i e=>.inl (.inr e));have dy:=(zB g3.b 2).trans (show _=some (Value.int .i64 d.F.ph) from rfl);clear hob hz hzm hg g3 f3;by_cases hp:d.F.ph=3
   ·have hp1:(d.F.ph != 3)=false:=by rw [hp]; rfl
    have HP:=zz hp;clear hp;go_wp2_with fail
    go_ret
    exact .inr (.inr ⟨HN.out,KF.out,by rw [if_pos HP.out]; rfl,G3.out,F3.out⟩)
   ·have hp1:(d.F.ph != 3)=true:=by rw [bne_iff_ne]; exact hp
    have HP:=zz hp;clear hp;go_wp2_with fail
    go_ret
    exact .inr (.inr ⟨HN.out,KF.out,by rw [if_neg HP.out]; rfl,G3.out,F3.out⟩)
  ·have KF:=zz (zAb (gen:=gen) hno)
   clear hno;go_wp2_with fail
   go_ret
   exact .inr (.inl ⟨HN.out,by rw [KF.out]; simp,by rw [KF.out]; rfl,F2.out⟩)
  ·have KF:=zz (show xj m gen d.F=10 by rw [jX hz hzm,if_neg hg])
   clear hz hzm hg;go_wp2_with fail
   go_ret
   exact .inr (.inl ⟨HN.out,by rw [KF.out]; simp,by rw [KF.out]; rfl,F2.out⟩)
 ·rw [decide_eq_false hn] at IT
  have HN:=zz hn;clear hn;go_enter Tryz.func143,Tryz.ntmps143
  go_wp2_with fail
  refine IT.out.mono ?_;rintro e w1 ⟨rfl,rfl⟩;clear IT;go_wp2_with fail
  go_ret
  exact .inl ⟨HN.out,rfl,Fr.same _⟩
end
section
variable {w w':World} {S K:Nat→Prop}
def zJy (d:zj) (m now:Int) (w:World) (e:Ending) (w':World):Prop:=
 (¬(0≤now∧now≤1099511627776)∧e=.returned (.int .i64 1)∧Fr (fun _=>False) w w')
 ∨((0≤now∧now≤1099511627776)∧(∀z∈d.F.zs,z.m.id≠m)∧e=.returned (.int .i64 11)∧Fr (fun _=>False) w w')
 ∨((0≤now∧now≤1099511627776)∧(∃z∈d.F.zs,z.m.id=m)∧e=.returned (.int .i64 0)∧∃v,v.ownBlock=d.v.ownBlock∧zu w' { d with F:=uz now (fun z=>z.m.id == m) d.F,v:=v } ∧Fr d.W w w')
theorem zRf {d:zj} (h:zu w d) {N:Nat} (hi:yL d.F N) (hN:N≤1000000) (m now:Int) (hm:-1≤m∧m≤2199023255552):
  Calls Tryz.prog 144 #[.pointer (some ⟨d.gb,0,none⟩),.int .i64 m,.int .i64 now] w (zJy d m now w):=by
 have f1:=(Fr.same w).alloc (.cells #[.int .i64 m] 3);have x1:=zC w (.cells #[.int .i64 m] 3);have G:=zz (h.old f1);have IT:=zz (jW (w:=w.alloc (.cells #[.int .i64 m] 3)) now);have OW:=zz (fun (i:Nat) (e:d.v.ownBlock=some i)=>(zK h.rows e).2);have X1:=zz x1;have F1:=zz f1;have dx:=zB x1 0;have hge:=hi.ge;have hre:=hi.re;have hlen:=hi.len;clear h f1 x1;by_cases hn:0≤now∧now≤1099511627776
 ·rw [decide_eq_true hn] at IT
  have HN:=zz hn;clear hn;go_enter Tryz.func144,Tryz.ntmps144
  go_wp2_with fail
  generalize (w.alloc (.cells #[.int .i64 m] 3))=w1 at *;refine IT.out.mono ?_;rintro e w2 ⟨rfl,rfl⟩;have FW:=zz (yZ d.F.zs d.v m w2 G.out.b G.out.rows (by omega) hi.rise (hi.idz hN) hm);clear IT;go_wp2_with fail
  refine FW.out.mono ?_;rintro e w3 ⟨hcase,f3⟩;have F3:=zz f3;have G3:=zz (G.out.old f3);have X3:=zz ((f3.block _ (zA X1.out) fun h=>h).trans X1.out);clear f3 FW dx;rcases hcase with ⟨b,k,z,hob,hz,hzm,rfl⟩ | ⟨rfl,hno⟩
  ·have HZ:=zz (show ∃z∈d.F.zs,z.m.id=m from ⟨z,List.mem_of_getElem? hz,hzm⟩)
   have c3:=zB X3.out 0;have DW:=zz (zXc (g:=212) (lb:=[.pointer (some ⟨w.heap.size,0,none⟩)]) eg212 (p212 w.heap.size m) (d:=d) (fun a b c f=>f.cell c (fun e=>by have:=OW.out _ e; exact absurd this (Nat.lt_irrefl _))) G3.out now (by omega) HN.out ⟨by omega,hre.2⟩ ⟨hge.1,by omega⟩ (c3.trans rfl));clear hob hz hzm;go_wp2_with fail
   refine DW.out.mono ?_;rintro e w4 ⟨rfl,v,ho,g4,f4⟩;have HH:=zz (And.intro ho (And.intro g4 (((F1.out.tr F3.out).mono (S':=d.W) fun _ h=>h.elim).trans f4 fun i e=>.inl e)));clear ho g4 f4 DW;go_wp2_with fail
   go_ret
   exact .inr (.inr ⟨HN.out,HZ.out,rfl,v,HH.out⟩)
  ·have NO:=zz hno
   clear hno;go_wp2_with fail
   go_ret
   exact .inr (.inl ⟨HN.out,NO.out,rfl,F1.out.tr F3.out⟩)
 ·rw [decide_eq_false hn] at IT
  have HN:=zz hn;clear hn;go_enter Tryz.func144,Tryz.ntmps144
  go_wp2_with fail
  generalize (w.alloc (.cells #[.int .i64 m] 3))=w1 at *;refine IT.out.mono ?_;rintro e w2 ⟨rfl,rfl⟩;clear IT;go_wp2_with fail
  go_ret
  exact .inl ⟨HN.out,rfl,F1.out⟩
end
section
variable {w w':World} {S K:Nat→Prop}
theorem zJz (s:ByteArray):Calls Tryz.prog 255 #[.string s] w fun e w'=>e=.returned (.string s)∧w'=w:=by
 go_enter Tryz.func255,Tryz.ntmps255
 go_wp2_with fail
 go_ret
 exact ⟨rfl,rfl⟩
def zKa (l:List ByteArray) (k:Nat):Prop:=∀(i:Nat) (a b:ByteArray),i+1 < k→l[i]?=some a→l[i+1]?=some b→Op.bytesLess a.toList b.toList=true
theorem zRg (l:List ByteArray) (v:Value) (h:xS K w v l) (hl:l.length≤1000):Calls Tryz.prog 254 #[v,.func (.func 255) #[] #[]] w fun e w'=>(∃c:Bool,e=.returned (.bool c)∧(c=true→zKa l l.length)∧(c=false→¬zKa l l.length))∧Fr (fun _=>False) w w':=by
 obtain ⟨oa,cap,rfl,-,h1⟩:=h;have H:=zz h1;clear h1;go_enter Tryz.func254,Tryz.ntmps254
 go_wp2_with fail
 go_loopw [5] (fun i wr=>∃k:Nat,i=.int .i64 k∧1≤k∧(k≤l.length∨k=1)∧zKa l k∧Fr (fun _=>False) w wr) (fun i _=>l.length - (intOf i).toNat)
 case atStart=>exact ⟨1,rfl,Nat.le_refl _,.inr rfl,fun i a b h=>absurd h (by omega),Fr.same _⟩
 case round=>
  obtain ⟨k,rfl,hk1,hk2,hr,hF⟩:=hrel;have FF:=zz hF;have RR:=zz hr;clear hF hr;rcases Nat.lt_or_ge k l.length with hlt | hge
  ·obtain ⟨j,rfl⟩:∃j,k=j+1:=⟨k - 1,by omega⟩
   obtain ⟨x,hx⟩:=zH (l:=l) (k:=j) (by omega);obtain ⟨y,hy⟩:=zH hlt;obtain ⟨a,rfl,-,hc,-⟩:=H.out j x hx;obtain ⟨a',ha',-,hc',-⟩:=H.out (j+1) y hy;injection ha' with ha'
   subst ha';have HX:=zz hx;have HY:=zz hy;have z0:∀y:Lcl.InS (fun w'=>Fr (fun _=>False) wr w'),y.w.cell? (a.add j)=some (.string x):=fun y=>y.h.cel (FF.out.cel hc)
   have z1:∀z:Lcl.InS (fun w'=>Fr (fun _=>False) wr w'),z.w.cell? ⟨a.block,a.off+(j+1),none⟩=some (.string y):=fun z=>by rw [←kL a (j+1) (by omega)]; exact z.h.cel (FF.out.cel hc')
   clear hx hy hc hc';go_wp2_with fail
   refine Lcl.wp_region_calm (by kernel_rfl) [(true,[0,1,2,3,4,7,8,9,10]),(false,[5,11])] #[0,0,0,4,14,30,63,0,0,0,768,1792,4095,8191] [0,1,2,3,4,5,6,7,8,9,10,11] 3 #[true,true,true,true,true,true,false,true,true,true,true,true,false,false] (by kernel_rfl) (by kernel_rfl) (by kernel_rfl) (fun w'=>Fr (fun _=>False) wr w') (Fr.same wr).drew (fun d c a v w h=>by cases d <;> exact h) ?_;simp only [Lcl.opsOf,List.map_cons,List.map_nil,List.getElem?_toArray,List.getElem?_cons_succ,List.getElem?_cons_zero,Option.getD_some];refine Lcl.wpCalm_t ?_
   repeat (go_big_quiet_step (rfl))
   refine wpQuiet_nil ?_;refine Lcl.wpCalm_f ?_
   repeat (go_big_quiet_step (rfl))
   refine wpQuiet_nil ?_;refine Lcl.wpCalm_nil ?_;clear z0 z1;have fd:Fr (fun _=>False) wr wr.drew:=(Fr.same wr).drew;have FD:=zz fd;have R1:=zz (zJz (w:=wr.drew) x);have R2:=zz (zJz (w:=wr.drew) y);clear fd;generalize wr.drew=wd at *;refine Lcl.wpG_one 6 rfl (by kernel_rfl) ?_;go_wp2_with fail
   refine R1.out.mono ?_;rintro e w1 ⟨rfl,hw⟩;obtain rfl:=hw.symm;go_wp2_with fail
   refine ⟨fun _ _=>FD.out,?_⟩;refine Lcl.wpG_one 12 rfl (by kernel_rfl) ?_;go_wp2_with fail
   refine R2.out.mono ?_;rintro e w1 ⟨rfl,hw⟩;obtain rfl:=hw.symm;go_wp2_with fail
   refine ⟨fun _ _=>FD.out,?_⟩;refine Lcl.wpG_run [13] _ _ _ (by kernel_rfl) ?_;simp only [List.map_cons,List.map_nil,List.getElem?_toArray,List.getElem?_cons_succ,List.getElem?_cons_zero,Option.getD_some];cases hb:Op.bytesLess x.toList y.toList with
   | false=>
    have HB:=zz hb;go_wp2_with fail
    go_ret
    refine ⟨⟨false,rfl,fun h=>(by cases h),fun _ hall=>?_⟩,FF.out.tr FD.out⟩
    have:=hall j x y hlt HX.out HY.out
    rw [HB.out] at this;cases this
   | true=>
    have HB:=zz hb;go_wp2_with fail
    go_roundw
    case rel=>exact ⟨j+2,by go_num,by omega,.inl (by omega),fun i p q hi hp hq=>by
     rcases Nat.lt_or_ge (i+1) (j+1) with h9 | h9
     ·exact RR.out i p q h9 hp hq
     ·obtain rfl:i=j:=by omega
      obtain rfl:=Option.some.inj (HX.out.symm.trans hp);obtain rfl:=Option.some.inj (HY.out.symm.trans hq);exact HB.out,FF.out.tr FD.out⟩
    case measure=>simp [intOf]; omega
  ·go_wp2_with fail
   go_ret
   refine ⟨⟨true,rfl,fun _=>?_,fun h=>by cases h⟩,FF.out⟩;intro i a b hi ha hb;exact RR.out i a b (by omega) ha hb
end
end Go.Proofs.YtfdhofabgdkkkaaGreatDoor

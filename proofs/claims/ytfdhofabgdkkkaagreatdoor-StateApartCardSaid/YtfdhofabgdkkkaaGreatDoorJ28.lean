/- A part of the proof that what the machine is told keeps its bounds. -/
import Derived.Test.YtfdhofabgdkkkaaGreatDoorJ27
set_option maxHeartbeats 128000000
set_option maxRecDepth 100000
namespace Go.Proofs.YtfdhofabgdkkkaaGreatDoor
open Lib renaming hid→zz
open Go.RowKit Go.Fm Go.BigFrame Go.Shelf Go.Maps
set_option linter.unusedVariables false
set_option linter.unusedSimpArgs false
section
variable {w w':World} {S K:Nat→Prop}
theorem wpG_cast {P:Program} {ops:Array Oper} {Q:Exit→Act→World→Prop} {S:World→Prop} {need need':Nat→Bool} {fuel:Nat} {listed:Array Bool} {a:Act} {w:World} (h:∀j,need j=need' j) (hh:Lcl.wpG P ops Q S need' fuel listed a w):Lcl.wpG P ops Q S need fuel listed a w:=by
 have:need=need':=funext h
 rw [this]; exact hh
def SameM (zs ys:List zN):Prop:=ys.length=zs.length∧∀(j:Nat) (y:zN),ys[j]?=some y→∃z,zs[j]?=some z∧y.m=z.m
def ViewPost (f:zf) (w:World) (e:Ending) (w':World):Prop:=∃(v:Value) (ys:List zN),e=.returned (.agg #[.int .i64 f.ph,.int .i64 f.ge,.int .i64 f.nx,.int .i64 f.un,v])∧zo w' v ys∧SameM f.zs ys∧Fr (fun _=>False) w w'
theorem zEb {d:zj} (h:zu w d) (hl:d.F.zs.length≤1000) (htl:∀z∈d.F.zs,z.m.tl.length≤1000∧z.m.pl.length≤1000):Calls Tryz.prog 140 #[.pointer (some ⟨d.gb,0,none⟩)] w (ViewPost d.F w):=by
 obtain ⟨oa,cap,hv⟩:=id h.rows.slice;have f1:=(Fr.same w).alloc (.cells #[.int .i64 0,.int .i64 0,.int .i64 0,.int .i64 0,.slice none 0 0] 214);have f2:=f1.alloc (.cells #[.int .i64 d.F.ph,.int .i64 d.F.ge,.int .i64 d.F.nx,.int .i64 d.F.un,.slice oa d.F.zs.length cap] 214);have s1:(w.alloc (.cells #[.int .i64 0,.int .i64 0,.int .i64 0,.int .i64 0,.slice none 0 0] 214)).heap.size=w.heap.size+1:=by simp
 have x2:=zC (w.alloc (.cells #[.int .i64 0,.int .i64 0,.int .i64 0,.int .i64 0,.slice none 0 0] 214)) (.cells #[.int .i64 d.F.ph,.int .i64 d.F.ge,.int .i64 d.F.nx,.int .i64 d.F.un,.slice oa d.F.zs.length cap] 214);rw [s1] at x2;have x1:=(zF (.cells #[.int .i64 d.F.ph,.int .i64 d.F.ge,.int .i64 d.F.nx,.int .i64 d.F.un,.slice oa d.F.zs.length cap] 214) (zA (zC w (.cells #[.int .i64 0,.int .i64 0,.int .i64 0,.int .i64 0,.slice none 0 0] 214)))).trans (zC w (.cells #[.int .i64 0,.int .i64 0,.int .i64 0,.int .i64 0,.slice none 0 0] 214));have G:=zz h;have HV:=zz hv;have F2:=zz f2;have X1:=zz x1;have X2:=zz x2;have db:=fun j=>zB (h.old f1).b j
 have dx:=fun j=>zB x2 j
 have dz:=fun j=>zd x2 j
 rw [hv] at db;have CW:=zz (zOi d.F.zs d.v ((w.alloc (.cells #[.int .i64 0,.int .i64 0,.int .i64 0,.int .i64 0,.slice none 0 0] 214)).alloc (.cells #[.int .i64 d.F.ph,.int .i64 d.F.ge,.int .i64 d.F.nx,.int .i64 d.F.un,.slice oa d.F.zs.length cap] 214)) (h.old f2).rows hl (by simp));rw [hv] at CW;clear h hv f1 f2 s1 x1 x2;go_enter Tryz.func140,Tryz.ntmps140
 go_wp2_with fail
 generalize ((w.alloc (.cells #[.int .i64 0,.int .i64 0,.int .i64 0,.int .i64 0,.slice none 0 0] 214)).alloc (.cells #[.int .i64 d.F.ph,.int .i64 d.F.ge,.int .i64 d.F.nx,.int .i64 d.F.un,.slice oa d.F.zs.length cap] 214))=w2 at *;refine CW.out.mono ?_;rintro e w3 ⟨v3,rfl,r3,n3,f3⟩;obtain ⟨oa3,cap3,rfl⟩:=id r3.slice;have R3:=zz r3;have F3:=zz (F2.out.tr f3);have y2:=(f3.block _ (zA X2.out) fun h=>h).trans X2.out;have Y1:=zz ((f3.block _ (zA X1.out) fun h=>h).trans X1.out);have dx:=fun j=>zB y2 j
 have dz:=fun j=>zd y2 j
 have N3:=zz n3;have Y2:=zz y2;have SZ:=zz (show w.heap.size+1 < w2.heap.size from zA X2.out);have f4:Fr (fun i=>i=w.heap.size+1) w3 (w3.setCell ⟨w.heap.size+1,4,none⟩ (.slice oa3 d.F.zs.length cap3)):=(Fr.refl (fun i=>i=w.heap.size+1) w3).setCell (p:=⟨w.heap.size+1,4,none⟩) (.inl rfl) _;have Z2:=zz ((zE y2 (o:=4) (.slice oa3 d.F.zs.length cap3)).trans (show _=some (Obj.cells #[.int .i64 d.F.ph,.int .i64 d.F.ge,.int .i64 d.F.nx,.int .i64 d.F.un,.slice oa3 d.F.zs.length cap3] 214 (0,0)) from rfl));have Z1:=zz ((f4.block _ (zA Y1.out) (by omega)).trans Y1.out);have R4:=zz (r3.fr f4 fun k hk e=>by have:=n3 k hk; have:=SZ.out; omega);have F4:=zz (F3.out.trans f4 fun i e=>.inr (by omega));have OB:=zz (fun (k:Nat) (hk:(Value.slice oa3 d.F.zs.length cap3).ownBlock=some k)=>(show w.heap.size+1 < k from by have:=n3 k hk; have:=SZ.out; omega));clear r3 f3 n3 CW y2 db X1 X2 f4 R3 Y1 Y2 F3 N3;go_wp2_with fail
 generalize (w3.setCell ⟨w.heap.size+1,4,none⟩ (.slice oa3 d.F.zs.length cap3))=w4 at *;clear dx dz;go_loopw [20] (fun i wr=>∃(k:Nat) (ys:List zN),i=.int .i64 k∧k≤d.F.zs.length∧SameM d.F.zs ys∧ys.drop k=d.F.zs.drop k∧zo wr (.slice oa3 d.F.zs.length cap3) ys∧wr.heap[w.heap.size]?=some (.cells #[.int .i64 0,.int .i64 0,.int .i64 0,.int .i64 0,.slice none 0 0] 214 (0,0))∧wr.heap[w.heap.size+1]?=some (.cells #[.int .i64 d.F.ph,.int .i64 d.F.ge,.int .i64 d.F.nx,.int .i64 d.F.un,.slice oa3 d.F.zs.length cap3] 214 (0,0))∧Fr (fun _=>False) w wr) (fun i _=>d.F.zs.length - (intOf i).toNat)
 case atStart=>exact ⟨0,d.F.zs,rfl,Nat.zero_le _,⟨rfl,fun j y hy=>⟨y,hy,rfl⟩⟩,rfl,R4.out,Z1.out,Z2.out,F4.out⟩
 case round=>
  obtain ⟨k,ys,rfl,hk,hsm,hdr,hrw,hz1,hz2,hF⟩:=hrel;have SM:=zz hsm;have DR:=zz hdr;have RW:=zz hrw;have W1:=zz hz1;have W2:=zz hz2;have FF:=zz hF;clear hsm hdr hrw hz1 hz2 hF;rcases Nat.lt_or_ge k d.F.zs.length with hlt | hge
  ·obtain ⟨z,hz⟩:=zH hlt
   have hy:ys[k]?=some z:=by
    have h1:=congrArg (fun l=>l[0]?) DR.out;simp only [List.getElem?_drop,Nat.add_zero] at h1;rw [h1];exact hz
   obtain ⟨g,cap',hsl,hob,hat⟩:=RW.out.at hy;injection hsl with e1 e2 e3
   subst e1 e3;clear e2;obtain ⟨c0,c1,c2,c3,c4⟩:=hat;have fa:=(Fr.same wr).alloc (.cells #[.int .i64 z.m.id,.slice z.ta z.tn z.tc,.int .i64 z.m.un,.bool z.m.jo,.slice z.pa z.pn z.pc] 266);have xa:=zC wr (.cells #[.int .i64 z.m.id,.slice z.ta z.tn z.tc,.int .i64 z.m.un,.bool z.m.jo,.slice z.pa z.pn z.pc] 266);have XA:=zz xa;have FA:=zz fa;have HZ:=zz hz;have HY:=zz hy;have HOB:=zz hob;have W2a:=zz ((fa.block _ (zA W2.out) fun h=>h).trans W2.out);have OK:=zz ((G.out.ok z (List.mem_of_getElem? hz)).fr (FF.out.tr fa) fun _ _ h=>h);have TL:=zz (htl z (List.mem_of_getElem? hz));have GL:=zz (show w.heap.size+1 < g∧g < wr.heap.size from ⟨OB.out _ hob,(zK RW.out hob).2⟩);clear hz hy hob fa xa;go_wp2_with fail
   generalize (wr.alloc (.cells #[.int .i64 z.m.id,.slice z.ta z.tn z.tc,.int .i64 z.m.un,.bool z.m.jo,.slice z.pa z.pn z.pc] 266))=wa at *;have z4:∀y:Lcl.InS (fun w'=>Fr (fun i=>i=g) wa w'),y.w.cell? ⟨w.heap.size+1,4,none⟩=some (.slice (some ⟨g,0,none⟩) d.F.zs.length cap3):=fun y=>y.h.cell ((zB W2a.out 4).trans rfl) (fun e=>by have e9:w.heap.size+1=g:=e; have:=GL.out; omega)
   have t1:∀y:Lcl.InS (fun w'=>Fr (fun i=>i=g) wa w'),y.w.cell? ⟨wr.heap.size,1,none⟩=some (.slice z.ta z.tn z.tc):=fun y=>y.h.cell ((zB XA.out 1).trans rfl) (fun e=>by have e9:wr.heap.size=g:=e; have:=GL.out; omega)
   have t4:∀y:Lcl.InS (fun w'=>Fr (fun i=>i=g) wa w'),y.w.cell? ⟨wr.heap.size,4,none⟩=some (.slice z.pa z.pn z.pc):=fun y=>y.h.cell ((zB XA.out 4).trans rfl) (fun e=>by have e9:wr.heap.size=g:=e; have:=GL.out; omega)
   refine Lcl.wp_region_calm (by kernel_rfl) [(true,[0,2,3,5,6,9]),(false,[1,4,7,10])] #[0,1,0,0,8,0,0,64,192,0,512,1984,4039,8135,16327,32767,65535,131071] [0,1,2,3,4,5,6,7,8,9,10,11,12,13,14] 8 #[true,true,true,true,true,true,true,true,false,true,true,false,false,false,false,false,false,false] (by kernel_rfl) (by kernel_rfl) (by kernel_rfl) (fun w'=>Fr (fun i=>i=g) wa w') (Fr.refl _ wa).drew (fun d c a v w h=>by cases d <;> exact h) ?_;simp only [Lcl.opsOf,List.map_cons,List.map_nil,List.getElem?_toArray,List.getElem?_cons_succ,List.getElem?_cons_zero,Option.getD_some];refine Lcl.wpCalm_t ?_
   repeat (go_big_quiet_step (rfl))
   refine wpQuiet_nil ?_;refine Lcl.wpCalm_f ?_
   repeat (go_big_quiet_step (rfl))
   refine wpQuiet_nil ?_;refine Lcl.wpCalm_nil ?_;clear z4 t1 t4;have fd:Fr (fun _=>False) wa wa.drew:=(Fr.same wa).drew;have FD:=zz fd;have SC:=zz (uO z.m.tl _ wa.drew (OK.out.1.fr fd fun _ _ h=>h) TL.out.1);have PC:=zz (fun w' (hf:Fr (fun _=>False) wa w')=>zAc z.m.pl _ w' (OK.out.2.fr hf fun _ _ h=>h) TL.out.2);clear fd;generalize wa.drew=wd at *;refine Lcl.wpG_one 8 rfl (by kernel_rfl) ?_;go_wp2_with fail
   refine SC.out.mono ?_;rintro e w8 ⟨v8,rfl,hr8,f8⟩;obtain ⟨oa8,cap8,rfl,-⟩:=id hr8;have D8:=zz (FD.out.tr f8);clear hr8 f8 SC;go_wp2_with fail
   refine ⟨fun _ _=>D8.out.mono fun _ h=>h.elim,?_⟩;have P8:=PC.out _ D8.out;refine Lcl.wpG_one 11 rfl (by kernel_rfl) ?_;go_wp2_with fail
   refine P8.mono ?_;rintro e w9 ⟨v9,rfl,hr9,f9⟩;obtain ⟨oa9,cap9,rfl,-⟩:=id hr9;have D9:=zz (D8.out.tr f9);clear hr9 f9 P8 PC;go_wp2_with fail
   refine ⟨fun _ _=>D9.out.mono fun _ h=>h.elim,?_⟩;have R9:=zz (RW.out.old (FA.out.tr D9.out));have R10:=R9.out.set HOB.out (k:=k) (j:=1) (u:=.slice oa8 z.m.tl.length cap8) (z':= { z with ta:=oa8,tn:=z.m.tl.length,tc:=cap8 }) HY.out (by omega) rfl;have hkl:k < ys.length:=by rw [SM.out.1]; exact hlt
   have hy1:(ys.set k { z with ta:=oa8,tn:=z.m.tl.length,tc:=cap8 })[k]?=some { z with ta:=oa8,tn:=z.m.tl.length,tc:=cap8 } :=List.getElem?_set_self hkl;obtain ⟨g1,-,-,hob1,hat1⟩:=R9.out.at HY.out;obtain rfl:g1=g:=Option.some.inj (hob1.symm.trans HOB.out);have c1:=hat1.c1;have z1:=(R9.out.there HOB.out (j:=k * 5+1) (by omega)).2;obtain ⟨g2,-,-,hob2,hat2⟩:=R10.at hy1;obtain rfl:g2=g1:=Option.some.inj (hob2.symm.trans HOB.out);have c4:=hat2.c4;have z4:=(R10.there HOB.out (j:=k * 5+4) (by rw [List.length_set]; omega)).2;have R11:=R10.set HOB.out (k:=k) (j:=4) (u:=.slice oa9 z.m.pl.length cap9) (z:= { z with ta:=oa8,tn:=z.m.tl.length,tc:=cap8 }) (z':= { z with ta:=oa8,tn:=z.m.tl.length,tc:=cap8,pa:=oa9,pn:=z.m.pl.length,pc:=cap9 }) hy1 (by omega) rfl;rw [List.set_set] at R11;have RN:=zz R11;have hgb:=OB.out _ HOB.out;have fs:Fr (fun i=>i=g2) w9 ((w9.setCell ⟨g2,k * 5+1,none⟩ (.slice oa8 z.m.tl.length cap8)).setCell ⟨g2,k * 5+4,none⟩ (.slice oa9 z.m.pl.length cap9)):=((Fr.refl (fun i=>i=g2) w9).setCell (p:=⟨g2,k * 5+1,none⟩) (.inl rfl) _).setCell (p:=⟨g2,k * 5+4,none⟩) (.inl rfl) _;have fo:=FA.out.tr D9.out;have V1:=zz ((fs.block _ (zA ((fo.block _ (zA W1.out) fun h=>h).trans W1.out)) (by omega)).trans ((fo.block _ (zA W1.out) fun h=>h).trans W1.out));have V2:=zz ((fs.block _ (zA ((fo.block _ (zA W2.out) fun h=>h).trans W2.out)) (by omega)).trans ((fo.block _ (zA W2.out) fun h=>h).trans W2.out));have FN:=zz ((FF.out.tr fo).trans fs fun i e=>.inr (by omega));clear R10 hy1 hob1 hat1 hob2 hat2 R11 fs fo hgb;have E9:=zz (D9.out.mono (S':=fun i=>i=g2) fun _ h=>h.elim);have E10:=zz (E9.out.setCell (p:=⟨g2,k * 5+1,none⟩) (.inl rfl) (.slice oa8 z.m.tl.length cap8));refine Lcl.wpG_one 12 rfl (by kernel_rfl) ?_;go_wp2_with fail
   refine Lcl.wpG_one 13 rfl (by kernel_rfl) ?_;go_wp2_with fail
   refine ⟨fun _ h=>h,?_⟩;refine Lcl.wpG_one 14 rfl (by kernel_rfl) ?_;go_wp2_with fail
   refine ⟨by intros; exact E10.out,?_⟩;refine wpG_cast (need':=fun j=>[0,1,2,3,4,5,6,7,8,9,10,11,12,13,14].contains j) (fun j=>by rw [Bool.eq_iff_iff]; simp) ?_;refine Lcl.wpG_run [15,16,17] _ _ _ (by kernel_rfl) ?_;simp only [List.map_cons,List.map_nil,List.getElem?_toArray,List.getElem?_cons_succ,List.getElem?_cons_zero,Option.getD_some];go_wp2_with fail
   go_roundw
   case rel=>exact ⟨k+1,ys.set k { z with ta:=oa8,tn:=z.m.tl.length,tc:=cap8,pa:=oa9,pn:=z.m.pl.length,pc:=cap9 },by go_num,by omega,⟨by rw [List.length_set]; exact SM.out.1,fun j y hy=>by
    rw [List.getElem?_set] at hy;by_cases hj:k=j
    ·subst hj
     rw [if_pos rfl,if_pos (by rw [SM.out.1]; exact hlt)] at hy;obtain rfl:=Option.some.inj hy;exact ⟨z,HZ.out,rfl⟩
    ·rw [if_neg hj] at hy
     exact SM.out.2 j y hy⟩,by
    rw [List.drop_set_of_lt (by omega)];have h1:=congrArg (List.drop 1) DR.out;rw [List.drop_drop,List.drop_drop] at h1
    first | exact h1 | (rwa [Nat.add_comm 1 k] at h1),RN.out,V1.out,V2.out,FN.out⟩
   case measure=>simp [intOf]; omega
  ·obtain rfl:k=d.F.zs.length:=by omega
   have d1:=fun j=>zB W1.out j
   have d2:=fun j=>zB W2.out j
   have e1:=fun j=>zd W1.out j
   go_wp2_with fail
   have fr5:Fr (fun i=>i=w.heap.size) wr (((((wr.setCell ⟨w.heap.size,0,none⟩ (.int .i64 d.F.ph)).setCell ⟨w.heap.size,1,none⟩ (.int .i64 d.F.ge)).setCell ⟨w.heap.size,2,none⟩ (.int .i64 d.F.nx)).setCell ⟨w.heap.size,3,none⟩ (.int .i64 d.F.un)).setCell ⟨w.heap.size,4,none⟩ (.slice oa3 d.F.zs.length cap3)):=(((((Fr.refl (fun i=>i=w.heap.size) wr).setCell (p:=⟨w.heap.size,0,none⟩) (.inl rfl) _).setCell (p:=⟨w.heap.size,1,none⟩) (.inl rfl) _).setCell (p:=⟨w.heap.size,2,none⟩) (.inl rfl) _).setCell (p:=⟨w.heap.size,3,none⟩) (.inl rfl) _).setCell (p:=⟨w.heap.size,4,none⟩) (.inl rfl) _;have xr:=zE (zE (zE (zE (zE W1.out (o:=0) (.int .i64 d.F.ph)) (o:=1) (.int .i64 d.F.ge)) (o:=2) (.int .i64 d.F.nx)) (o:=3) (.int .i64 d.F.un)) (o:=4) (.slice oa3 d.F.zs.length cap3);have rr:=RW.out.fr fr5 fun k hk e=>by have:=OB.out k hk; omega
   try simp only [Exit.inBlock,Exit.then]
   refine bodyPost_ret (results_cell_row rfl _ _ w.heap.size 214 _ (0,0) _ rfl xr Tryz.underlying214 rfl (by kernel_rfl)) rfl ?_;exact ⟨_,ys,rfl,rr,SM.out,FF.out.trans fr5 fun i e=>.inr (by omega)⟩
end
section
variable {w w':World} {S K K2:Nat→Prop}
theorem zCy (tl:List ByteArray) (ta:Option Addr) (tn tc:Nat):zOf [⟨0,tl,ta,tn,tc⟩] []↔tl.length≤20∧zKa tl tl.length:=by
 constructor
 ·intro h
  exact (h.so _ List.mem_cons_self).2.2
 ·intro h
  refine ⟨by simp,by simp,fun i a b hi=>by simp at hi,fun i a b hi=>by simp at hi,fun z hz=>?_,fun t ht=>by cases ht⟩;rw [List.mem_singleton] at hz;subst hz;exact ⟨by simp,by simp,h.1,h.2⟩
def zOj (id:Int):zN:=⟨⟨id,[],0,false,[]⟩,none,0,0,none,0,0⟩
def zg (f:zf):zf:= { f with nx:=f.nx+1,zs:=f.zs++ [zOj f.nx] }
def xA (now:Int) (f:zf):zf:=if f.ph=1 then f else zh now f
def xW (m now:Int) (tl:List ByteArray) (ta:Option Addr) (tc:Nat) (f:zf):zf:= { f with zs:=onZ m (fun z=> { z with m:= { z.m with tl:=tl,jo:=true,un:=now+f.se },ta:=ta,tn:=tl.length,tc:=tc }) f.zs }
def jy (now:Int) (f:zf):zf:=if (f.zs.any fun z=>!z.m.jo)=true then f else uX now f
def vB (m now:Int) (tl:List ByteArray):Prop:=(0≤now∧now≤1099511627776)∧-1≤m∧tl.length≤20∧zKa tl tl.length
def yX (m:Int) (f:zf):Int:=if m= -1 then (if 20≤f.zs.length then 5 else 0) else if (f.zs.any fun z=>z.m.id == m)=false then 11 else 0
def zCz (d:zj) (m now:Int) (tl:List ByteArray) (w:World) (e:Ending) (w':World):Prop:=
 (¬vB m now tl∧e=.returned (.tuple #[.int .i64 0,.int .i64 1])∧Fr (fun _=>False) w w')
 ∨(vB m now tl∧yX m d.F≠0∧e=.returned (.tuple #[.int .i64 0,.int .i64 (yX m d.F)])∧Fr (fun _=>False) w w')
 ∨(vB m now tl∧yX m d.F=0∧∃(ta:Option Addr) (tc:Nat) (v:Value) (K':Nat→Prop),
   e=.returned (.tuple #[.int .i64 (if m= -1 then d.F.nx else m),.int .i64 0])
   ∧zu w' ⟨d.gb,jy now (xW (if m= -1 then d.F.nx else m) now tl ta tc (xA now (if m= -1 then zg d.F else d.F))),v,K'⟩
   ∧(∀i,K' i→d.K i∨w.heap.size≤i)∧(∀i,v.ownBlock=some i→d.v.ownBlock=some i∨w.heap.size≤i)∧Fr d.W w w')
theorem zOk {d:zj} (h:zu w d) {N:Nat} (hi:yL d.F N) (hN:N≤1000000) (tl:List ByteArray) (ta:Option Addr) (tn tc:Nat) (htl:xS K2 w (.slice ta tn tc) tl) (hl:tl.length≤1000) (m now:Int) (hm:-1≤m∧m≤2199023255552) (hbad:¬vB m now tl∨yX m d.F≠0):
  Calls Tryz.prog 139 #[.pointer (some ⟨d.gb,0,none⟩),.int .i64 m,.slice ta tn tc,.int .i64 now] w (zCz d m now tl w):=by
 have f1:=(Fr.same w).alloc (.cells #[.int .i64 0,.slice ta tn tc] 314);have f2:=f1.alloc (.cells #[.int .i64 0,.slice ta tn tc] 314);have s1:(w.alloc (.cells #[.int .i64 0,.slice ta tn tc] 314)).heap.size=w.heap.size+1:=by simp
 have x1:=zC w (.cells #[.int .i64 0,.slice ta tn tc] 314);have x2:=zC (w.alloc (.cells #[.int .i64 0,.slice ta tn tc] 314)) (.cells #[.int .i64 0,.slice ta tn tc] 314);rw [s1] at x2;have IT:=zz (jW (w:=w.alloc (.cells #[.int .i64 0,.slice ta tn tc] 314)) now);have CK:=zz (vA [⟨0,tl,ta,tn,tc⟩] [] (.slice (some ⟨w.heap.size+1,0,none⟩) 1 1) (.slice none 0 0) ⟨_,_,rfl,fun i z hz=>by
   have hi:=(List.getElem?_eq_some_iff.1 hz).1;obtain rfl:i=0:=by simpa using hi
   simp at hz;subst hz;exact ⟨_,rfl,(zB x2 0).trans rfl,(zB x2 1).trans rfl⟩⟩ jq.nil (K:=K2) (fun z hz=>by
   rw [List.mem_singleton] at hz;subst hz;exact htl.fr f2 fun _ _ h=>h) (fun z hz=>by
   rw [List.mem_singleton] at hz;subst hz;exact hl) (by simp) (by simp))
 have FW:=zz (fun w' (hf:Fr (fun _=>False) w w')=>yZ d.F.zs d.v m w' (h.old hf).b (h.old hf).rows (by have:=hi.len; omega) hi.rise (hi.idz hN) hm);have DB:=zz (fun w' (hf:Fr (fun _=>False) w w') (j:Nat)=>zB (h.old hf).b j);obtain ⟨oa,cap,hv⟩:=id h.rows.slice;have HV:=zz hv;have F1:=zz f1;have F2:=zz f2;have dx:=fun j=>zB x1 j
 have hm1:=hm.1;clear f1 f2 s1 x1 x2 h hv htl;by_cases ht:0≤now∧now≤1099511627776
 case neg=>
  rw [decide_eq_false ht] at IT;have HT:=zz ht;clear ht;go_enter Tryz.func139,Tryz.ntmps139
  go_wp2_with fail
  refine IT.out.mono ?_;rintro e w2 ⟨rfl,rfl⟩;clear IT;go_wp2_with fail
  go_ret2
  exact .inl ⟨fun h=>HT.out h.1,rfl,F1.out⟩
 rw [decide_eq_true ht] at IT;have HT:=zz ht;clear ht;go_enter Tryz.func139,Tryz.ntmps139
 go_wp2_with fail
 refine IT.out.mono ?_;rintro e w2 ⟨rfl,hw⟩;obtain rfl:=hw.symm;clear IT;go_wp2_with fail
 refine CK.out.mono ?_;rintro e w3 ⟨hcase,f3⟩;have F3:=zz (F2.out.tr f3);clear f3 CK dx;rcases hcase with ⟨rfl,hp⟩ | ⟨rfl,hp⟩
 case inr=>
  have HP:=zz hp;clear hp;go_wp2_with fail
  go_ret2
  exact .inl ⟨fun h=>HP.out ((zCy _ _ _ _).2 h.2.2),rfl,F3.out⟩
 have OK:=zz (show vB m now tl from ⟨HT.out,hm1,(zCy _ _ _ _).1 hp⟩);have BAD:=zz (hbad.elim (fun h=>absurd OK.out h) id);have d3:=fun j=>DB.out w3 F3.out j
 rw [HV.out] at d3;clear hp hbad;by_cases hm9:m= -1
 ·subst hm9
  have h20:20≤d.F.zs.length:=Decidable.byContradiction fun h=>BAD.out (by rw [yX,if_pos rfl,if_neg h])
  have JE:=zz (show yX (-1) d.F=5 by rw [yX,if_pos rfl,if_pos h20]);go_wp2_with fail
  go_ret2
  exact .inr (.inl ⟨OK.out,BAD.out,by rw [JE.out]; rfl,F3.out⟩)
 ·have hm8:(m != -1)=true:=by rw [bne_iff_ne]; exact hm9
  have hno:(d.F.zs.any fun z=>z.m.id == m)=false:=Decidable.byContradiction fun h=>BAD.out (by rw [yX,if_neg hm9,if_neg h])
  have JE:=zz (show yX m d.F=11 by rw [yX,if_neg hm9,if_pos hno]);have NO:=zz hno;have FX:=FW.out w3 F3.out;clear hm9 hno;go_wp2_with fail
  refine FX.mono ?_;rintro e w4 ⟨hcase,f4⟩;have F4:=zz (F3.out.tr f4);clear f4 FX;rcases hcase with ⟨b,k,z,hob,hz,hzm,rfl⟩ | ⟨rfl,-⟩
  ·exact absurd (show (d.F.zs.any fun z=>z.m.id == m)=true from List.any_eq_true.2 ⟨z,List.mem_of_getElem? hz,by rw [beq_iff_eq]; exact hzm⟩) (by rw [NO.out]; simp)
  ·go_wp2_with fail
   go_ret2
   exact .inr (.inl ⟨OK.out,BAD.out,by rw [JE.out]; rfl,F4.out⟩)
end
end Go.Proofs.YtfdhofabgdkkkaaGreatDoor

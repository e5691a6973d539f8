/- A part of the proof that what the machine is told keeps its bounds. -/
import Derived.Test.YtfdhofabgdkkkaaGreatDoorJ28
set_option maxHeartbeats 128000000
set_option maxRecDepth 100000
namespace Go.Proofs.YtfdhofabgdkkkaaGreatDoor
open Lib renaming hid→zz
open Go.RowKit Go.Fm Go.BigFrame Go.Shelf Go.Maps
set_option linter.unusedVariables false
set_option linter.unusedSimpArgs false
section
variable {w w':World} {S K K2:Nat→Prop}
theorem zOl {t:zN→zN} (ht:∀z,(t z).m.id=z.m.id) {zs:List zN} (h:uw zs):uw (zs.map t):=by
 intro i j z z' hz hz' hij;rw [List.getElem?_map] at hz hz';obtain ⟨y,hy,rfl⟩:=Option.map_eq_some_iff.1 hz;obtain ⟨y',hy',rfl⟩:=Option.map_eq_some_iff.1 hz';rw [ht,ht];exact h i j y y' hy hy' hij
theorem ids_map {t:zN→zN} (ht:∀z,(t z).m.id=z.m.id) {zs:List zN} (h:zWz zs):zWz (zs.map t):=by
 intro z hz;obtain ⟨y,hy,rfl⟩:=List.mem_map.1 hz;rw [ht];exact h y hy
theorem zKd {zs:List zN} {z:zN} (h:uw zs) (hz:∀y∈zs,y.m.id < z.m.id):uw (zs++ [z]):=by
 intro i j a b ha hb hij;rcases Nat.lt_or_ge j zs.length with h1 | h1
 ·rw [List.getElem?_append_left h1] at hb
  rw [List.getElem?_append_left (by omega)] at ha;exact h i j a b ha hb hij
 ·rw [List.getElem?_append_right h1] at hb
  have h2:=(List.getElem?_eq_some_iff.1 hb).1;simp at h2;obtain rfl:j=zs.length:=by omega
  simp at hb;subst hb;rw [List.getElem?_append_left hij] at ha;exact hz a (List.mem_of_getElem? ha)
structure Mid (f:zf) (m:Int):Prop where
 len:f.zs.length≤21
 rise:uw f.zs
 ids:zWz f.zs
 there:∃z∈f.zs,z.m.id=m
theorem Mid.anew {f:zf} {m now:Int} (h:Mid f m):Mid (zh now f) m:=by
 obtain ⟨z,hz,hm⟩:=h.there;have hn:f.zs≠[]:=fun e=>by rw [e] at hz; cases hz
 rw [zh,if_neg hn];exact ⟨by show (f.zs.map zBi).length≤21; rw [List.length_map]; exact h.len,zOl (t:=zBi) (fun _=>rfl) h.rise,ids_map (t:=zBi) (fun _=>rfl) h.ids,⟨_,List.mem_map_of_mem hz,hm⟩⟩
theorem zAv (now:Int) (f:zf):(zh now f).re=f.re∧(zh now f).ge=f.ge∧(zh now f).se=f.se:=by
 unfold zh;split <;> exact ⟨rfl,rfl,rfl⟩
theorem join_okA {d:zj} (h:zu w d) {N:Nat} (hi:yL d.F N) (hN:N≤1000000) (tl:List ByteArray) (ta:Option Addr) (tn tc:Nat) (htl:xS K2 w (.slice ta tn tc) tl) (hk2:∀i,K2 i→¬d.W i) (hl:tl.length≤1000) (m now:Int) (hm:-1≤m∧m≤2199023255552) (hok:vB m now tl) (hje:yX m d.F=0) (hm9:m= -1):
  Calls Tryz.prog 139 #[.pointer (some ⟨d.gb,0,none⟩),.int .i64 m,.slice ta tn tc,.int .i64 now] w (zCz d m now tl w):=by
 have f1:=(Fr.same w).alloc (.cells #[.int .i64 0,.slice ta tn tc] 314);have f2:=f1.alloc (.cells #[.int .i64 0,.slice ta tn tc] 314);have s1:(w.alloc (.cells #[.int .i64 0,.slice ta tn tc] 314)).heap.size=w.heap.size+1:=by simp
 have x1:=zC w (.cells #[.int .i64 0,.slice ta tn tc] 314);have x2:=zC (w.alloc (.cells #[.int .i64 0,.slice ta tn tc] 314)) (.cells #[.int .i64 0,.slice ta tn tc] 314);rw [s1] at x2;have IT:=zz (jW (w:=w.alloc (.cells #[.int .i64 0,.slice ta tn tc] 314)) now);have CK:=zz (vA [⟨0,tl,ta,tn,tc⟩] [] (.slice (some ⟨w.heap.size+1,0,none⟩) 1 1) (.slice none 0 0) ⟨_,_,rfl,fun i z hz=>by
   have hi:=(List.getElem?_eq_some_iff.1 hz).1;obtain rfl:i=0:=by simpa using hi
   simp at hz;subst hz;exact ⟨_,rfl,(zB x2 0).trans rfl,(zB x2 1).trans rfl⟩⟩ jq.nil (K:=K2) (fun z hz=>by
   rw [List.mem_singleton] at hz;subst hz;exact htl.fr f2 fun _ _ h=>h) (fun z hz=>by
   rw [List.mem_singleton] at hz;subst hz;exact hl) (by simp) (by simp))
 have FW:=zz (fun w' (hf:Fr (fun _=>False) w w')=>yZ d.F.zs d.v m w' (h.old hf).b (h.old hf).rows (by have:=hi.len; omega) hi.rise (hi.idz hN) hm);have G:=zz h;have TL:=zz htl;obtain ⟨oa,cap,hv⟩:=id h.rows.slice;have HV:=zz hv;have F2:=zz f2;have dx:=fun j=>zB x1 j
 have hm1:=hm.1;have ht:=hok.1;have OK:=zz hok;have JE:=zz hje;have hre:=hi.re;have hse:=hi.se;have hge:=hi.ge;have hnx:=hi.nx;have hlen:=hi.len;clear f1 f2 s1 x1 x2 h hv htl hok hje;rw [decide_eq_true ht] at IT;have ht1:=ht.1;have ht2:=ht.2;clear ht;go_enter Tryz.func139,Tryz.ntmps139
 go_wp2_with fail
 refine IT.out.mono ?_;rintro e w2 ⟨rfl,hw⟩;obtain rfl:=hw.symm;clear IT;go_wp2_with fail
 refine CK.out.mono ?_;rintro e w3 ⟨hcase,f3⟩;have F3:=zz (F2.out.tr f3);clear f3 CK dx;rcases hcase with ⟨rfl,-⟩ | ⟨rfl,hp⟩
 case inr=>exact absurd ((zCy _ _ _ _).2 OK.out.2.2) hp
 have G3:=zz (G.out.old F3.out);have d3:=fun j=>zB G3.out.b j
 have z3:=fun j=>zd G3.out.b j
 rw [HV.out] at d3;subst hm9;have h20:¬20≤d.F.zs.length:=fun h=>by have:=JE.out; rw [yX,if_pos rfl,if_pos h] at this; cases this
 have f4:Fr (fun i=>i=d.gb) w3 (w3.setCell ⟨d.gb,4,none⟩ (.int .i64 (d.F.nx+1))):=(Fr.refl (fun i=>i=d.gb) w3).setCell (p:=⟨d.gb,4,none⟩) (.inl rfl) _;have b4:=zE G3.out.b (o:=4) (.int .i64 (d.F.nx+1));have sz4:(w3.setCell ⟨d.gb,4,none⟩ (.int .i64 (d.F.nx+1))).heap.size=w3.heap.size:=by simp [World.setCell]
 have hc5:=fun j=>zD (w3.setCell ⟨d.gb,4,none⟩ (.int .i64 (d.F.nx+1))) #[.int .i64 d.F.nx,.slice none 0 0,.int .i64 0,.bool false,.slice none 0 0] 266 j
 rw [sz4] at hc5;have f5:=f4.alloc (.cells #[.int .i64 d.F.nx,.slice none 0 0,.int .i64 0,.bool false,.slice none 0 0] 266);have r5:=G3.out.rows.fr f5 fun k hk e=>G3.out.x1 (by rw [hk,e])
 have b5:=(zF (.cells #[.int .i64 d.F.nx,.slice none 0 0,.int .i64 0,.bool false,.slice none 0 0] 266) (zA b4)).trans b4;have HC5:=zz hc5;have F5:=zz f5;have R5:=zz r5;have B5:=zz b5;have d4:=fun j=>zB b4 j
 have WP:=zz (Nat.lt_of_le_of_lt (Nat.zero_le _) (zA G3.out.b));have SZ5:=zz (show ((w3.setCell ⟨d.gb,4,none⟩ (.int .i64 (d.F.nx+1))).alloc (.cells #[.int .i64 d.F.nx,.slice none 0 0,.int .i64 0,.bool false,.slice none 0 0] 266)).heap.size=w3.heap.size+1 from by simp [World.setCell]);have RH:=R5;rw [HV.out] at RH d4;clear f4 b4 sz4 hc5 f5 r5 b5;go_wp2_with (at_builtin; refine zFp _ rfl (.tmp 74) (.tmp 77) rfl (.slice oa d.F.zs.length cap) d.F.zs rfl RH.out w3.heap.size 1 rfl (zOj d.F.nx) HC5.out (by omega) (by rw [SZ5.out]; omega) ?_)
 intro v6 w6 hr6 hg6 ho6;rw [←HV.out] at hg6 ho6;obtain ⟨ob6,cap6,hv6⟩:=id hr6.slice;rw [show (d.F.zs++ [zOj d.F.nx]).length=d.F.zs.length+1 from by simp] at hv6;subst hv6;have f6:Fr d.W w3 w6:=(F5.out.mono (S':=d.W) fun i e=>.inl (.inl e)).grown hg6 fun k hk=>.inl (.inr hk)
 have b6:=(hg6.block d.gb (zA B5.out) (fun e=>G.out.x1 e.symm)).trans B5.out;have ow6:∀i,(Value.slice ob6 (d.F.zs.length+1) cap6).ownBlock=some i→d.v.ownBlock=some i∨w3.heap.size < i:=fun i e=>ho6.elim (fun h=>.inl (by rw [←h]; exact e)) fun h=>.inr (by rw [h] at e; injection e with e; have:=SZ5.out; omega)
 have f7:Fr (fun i=>i=d.gb) w6 (w6.setCell ⟨d.gb,6,none⟩ (.slice ob6 (d.F.zs.length+1) cap6)):=(Fr.refl (fun i=>i=d.gb) w6).setCell (p:=⟨d.gb,6,none⟩) (.inl rfl) _;have b7:=(zE b6 (o:=6) (.slice ob6 (d.F.zs.length+1) cap6)).trans (show _=some (Obj.cells #[.int .i64 d.F.se,.int .i64 d.F.re,.int .i64 d.F.ph,.int .i64 d.F.ge,.int .i64 (d.F.nx+1),.int .i64 d.F.un,.slice ob6 (d.F.zs.length+1) cap6] 216 (0,0)) from rfl);have fw7:Fr d.W w3 (w6.setCell ⟨d.gb,6,none⟩ (.slice ob6 (d.F.zs.length+1) cap6)):=f6.trans f7 fun i e=>.inl (.inl e)
 have glt:=zA G3.out.b;have G7:zu (w6.setCell ⟨d.gb,6,none⟩ (.slice ob6 (d.F.zs.length+1) cap6)) ⟨d.gb,zg d.F,.slice ob6 (d.F.zs.length+1) cap6,d.K⟩:=
  ⟨b7,hr6.fr f7 fun k hk e=>by
   have e9:k=d.gb:=e;exact (ow6 k hk).elim (fun h=>G.out.x1 (by rw [h,e9])) fun h=>by omega,fun z hz=>(List.mem_append.1 hz).elim (fun hz=>G3.out.okf fw7 hz) fun hz=>by
   rw [List.mem_singleton] at hz;subst hz;exact ⟨xS.nil,xL.nil⟩,G.out.pos,fun e=>(ow6 _ e).elim G.out.x1 fun h=>(by have h9:w3.heap.size < d.gb:=h; omega),G.out.x2,fun i hi hk=>(ow6 _ hi).elim (fun h=>G.out.x3 i h hk) fun h=>by have:=(G3.out.lt i hk).2; omega,fun i hi=>⟨(G.out.lt i hi).1,Nat.lt_of_lt_of_le (G3.out.lt i hi).2 fw7.size⟩⟩
 have GA:=zz G7;have FA:=zz ((F3.out.mono (S':=d.W) fun _ h=>h.elim).trans fw7 fun i e=>.inl e);have OWA:=zz (show ∀i,(Value.slice ob6 (d.F.zs.length+1) cap6).ownBlock=some i→d.v.ownBlock=some i∨w.heap.size≤i from fun i e=>(ow6 i e).imp id fun h=>by have:=F3.out.size; omega);have MID:=zz (show Mid (zg d.F) d.F.nx from ⟨by show (d.F.zs++ [zOj d.F.nx]).length≤21; rw [List.length_append]; simp; omega,zKd hi.rise fun y hy=>(hi.ids y hy).2,fun z hz=>(List.mem_append.1 hz).elim (fun hz=>hi.idz hN z hz) fun hz=>by rw [List.mem_singleton] at hz; subst hz; exact ⟨hnx.1,by show d.F.nx≤_; omega⟩,⟨zOj d.F.nx,List.mem_append_right _ List.mem_cons_self,rfl⟩⟩);have d6:=fun j=>zB b6 j
 have y6:=fun j=>zd b6 j
 have d7:=fun j=>zB b7 j
 clear f6 b6 f7 b7 fw7 G7 hr6 hg6 ho6 ow6 d3 z3 d4 HC5 F5 R5 RH B5;by_cases hp:d.F.ph=1
 ·have hp1:(d.F.ph != 1)=false:=by rw [hp]; rfl
  have HP:=zz hp;have G8:=GA;have F8:=FA;have OW8:=OWA;have MID8:=MID;have SE8:=zz (show (zg d.F).se=d.F.se from rfl);have RE8:=zz (show 1≤(zg d.F).re∧(zg d.F).re≤100000 from hre);have GE8:=zz (show 0≤(zg d.F).ge∧(zg d.F).ge≤N from hge);clear hp;go_wp2_with fail
  generalize (w6.setCell ⟨d.gb,6,none⟩ (.slice ob6 (d.F.zs.length+1) cap6))=w8 at *;have FN:=zz (yZ (zg d.F).zs (Value.slice ob6 (d.F.zs.length+1) cap6) (d.F.nx) w8 G8.out.b G8.out.rows (by have:=MID8.out.len; omega) MID8.out.rise MID8.out.ids (by constructor <;> omega));refine FN.out.mono ?_;rintro e w9 ⟨hcase,f9⟩;rcases hcase with ⟨b,k,z,hob,hz,hzm,rfl⟩ | ⟨rfl,hno⟩
  case inr=>obtain ⟨z,hz,hzm⟩:=MID8.out.there; exact absurd hzm (hno z hz)
  have G9:=zz (G8.out.old f9);have F9:=zz (F8.out.trans f9 fun _ h=>h.elim);have HOB:=zz hob;have HZ:=zz hz;have HM:=zz hzm;have FT:=zz (TL.out.fr F9.out hk2);clear hob hz hzm f9 FN;go_wp2_with fail
  have z0:∀y:Lcl.InS (fun w'=>Fr (fun _=>False) w9 w'),y.w.cell? ⟨d.gb,0,none⟩=some (.int .i64 d.F.se):=fun y=>y.h.cel ((zB G9.out.b 0).trans (by first | rfl | (rw [←SE8.out]; rfl)))
  refine Lcl.wp_region_calm (by kernel_rfl) [(true,[0,1,2,3,5,6,7,8]),(false,[9]),(true,[10])] #[0,0,0,0,8,0,0,64,192,448,992,985,3033,7129,15323,31707,64475,131071,262143,524287] [0,1,2,3,4,5,6,7,8,9] 10 #[true,true,true,true,false,true,true,true,true,true,true,false,false,false,false,false,false,false,false,false] (by kernel_rfl) (by kernel_rfl) (by kernel_rfl) (fun w'=>Fr (fun _=>False) w9 w') (Fr.same w9).drew (fun d c a v w h=>by cases d <;> exact h) ?_;simp only [Lcl.opsOf,List.map_cons,List.map_nil,List.getElem?_toArray,List.getElem?_cons_succ,List.getElem?_cons_zero,Option.getD_some];refine Lcl.wpCalm_t ?_
  repeat (go_big_quiet_step (rfl))
  refine wpQuiet_nil ?_;refine Lcl.wpCalm_f ?_
  repeat (go_big_quiet_step (rfl))
  refine wpQuiet_nil ?_;refine Lcl.wpCalm_t ?_
  repeat (go_big_quiet_step (rfl))
  refine wpQuiet_nil ?_;refine Lcl.wpCalm_nil ?_;clear z0;have fd:Fr (fun _=>False) w9 w9.drew:=(Fr.same w9).drew;have FD:=zz fd;have SC:=zz (uO tl (.slice ta tn tc) w9.drew (FT.out.fr fd fun _ _ h=>h) hl);have DSZ:=zz (show w9.drew.heap.size=w9.heap.size from rfl);clear fd;generalize w9.drew=wd at *;refine Lcl.wpG_one 4 rfl (by kernel_rfl) ?_;go_wp2_with fail
  refine SC.out.mono ?_;rintro e w10 ⟨v10,rfl,hr10,f10⟩;obtain ⟨oa10,cap10,rfl,-⟩:=id hr10;have D10:=zz (FD.out.tr f10);have T10:=zz (hr10.mono (K':=fun i=>w9.heap.size≤i∧i < w10.heap.size) fun b h1 h2=>⟨by rw [←DSZ.out]; exact h1,h2⟩);clear hr10 f10 SC;go_wp2_with fail
  refine ⟨fun _ _=>D10.out,?_⟩;have G10:=G9.out.old D10.out;have hkl:=(List.getElem?_eq_some_iff.1 HZ.out).1;have R1:=G10.rows.set HOB.out (k:=k) (j:=1) (u:=.slice oa10 tl.length cap10) (z':= { z with m:= { z.m with tl:=tl },ta:=oa10,tn:=tl.length,tc:=cap10 }) HZ.out (by omega) rfl;have hy1:((zg d.F).zs.set k { z with m:= { z.m with tl:=tl },ta:=oa10,tn:=tl.length,tc:=cap10 })[k]?=some { z with m:= { z.m with tl:=tl },ta:=oa10,tn:=tl.length,tc:=cap10 } :=List.getElem?_set_self hkl;have R2:=R1.set HOB.out (k:=k) (j:=3) (u:=.bool true) (z:= { z with m:= { z.m with tl:=tl },ta:=oa10,tn:=tl.length,tc:=cap10 }) (z':= { z with m:= { z.m with tl:=tl,jo:=true },ta:=oa10,tn:=tl.length,tc:=cap10 }) hy1 (by omega) rfl;rw [List.set_set] at R2;have hy2:((zg d.F).zs.set k { z with m:= { z.m with tl:=tl,jo:=true },ta:=oa10,tn:=tl.length,tc:=cap10 })[k]?=some { z with m:= { z.m with tl:=tl,jo:=true },ta:=oa10,tn:=tl.length,tc:=cap10 } :=List.getElem?_set_self hkl;have R3:=R2.set HOB.out (k:=k) (j:=2) (u:=.int .i64 (now+d.F.se)) (z:= { z with m:= { z.m with tl:=tl,jo:=true },ta:=oa10,tn:=tl.length,tc:=cap10 }) (z':= { z with m:= { z.m with tl:=tl,jo:=true,un:=now+d.F.se },ta:=oa10,tn:=tl.length,tc:=cap10 }) hy2 (by omega) rfl;rw [List.set_set] at R3;obtain ⟨g1,-,-,hob1,hat1⟩:=G10.rows.at HZ.out;obtain rfl:g1=b:=Option.some.inj (hob1.symm.trans HOB.out);obtain ⟨g2,-,-,hob2,hat2⟩:=R1.at hy1;obtain rfl:g2=g1:=Option.some.inj (hob2.symm.trans HOB.out);obtain ⟨g3,-,-,hob3,hat3⟩:=R2.at hy2;obtain rfl:g3=g2:=Option.some.inj (hob3.symm.trans HOB.out);have c1:=hat1.c1;have c3:=hat2.c3;have c2:=hat3.c2;have y1:=(G10.rows.there HOB.out (j:=k * 5+1) (show k * 5+1 < (zg d.F).zs.length * 5 by omega)).2;have y3:=(R1.there HOB.out (j:=k * 5+3) (by rw [List.length_set]; show k * 5+3 < (zg d.F).zs.length * 5; omega)).2;have y2:=(R2.there HOB.out (j:=k * 5+2) (by rw [List.length_set]; show k * 5+2 < (zg d.F).zs.length * 5; omega)).2;have fs:Fr (fun i=>((Value.slice ob6 (d.F.zs.length+1) cap6)).ownBlock=some i) w10 (((w10.setCell ⟨g3,k * 5+1,none⟩ (.slice oa10 tl.length cap10)).setCell ⟨g3,k * 5+3,none⟩ (.bool true)).setCell ⟨g3,k * 5+2,none⟩ (.int .i64 (now+d.F.se))):=(((Fr.refl (fun i=>((Value.slice ob6 (d.F.zs.length+1) cap6)).ownBlock=some i) w10).setCell (p:=⟨g3,k * 5+1,none⟩) (.inl HOB.out) _).setCell (p:=⟨g3,k * 5+3,none⟩) (.inl HOB.out) _).setCell (p:=⟨g3,k * 5+2,none⟩) (.inl HOB.out) _;have hset:=zCx (t:=fun z=> { z with m:= { z.m with tl:=tl,jo:=true,un:=now+(zg d.F).se },ta:=oa10,tn:=tl.length,tc:=cap10 }) MID8.out.rise HZ.out HM.out;have g11:zu (((w10.setCell ⟨g3,k * 5+1,none⟩ (.slice oa10 tl.length cap10)).setCell ⟨g3,k * 5+3,none⟩ (.bool true)).setCell ⟨g3,k * 5+2,none⟩ (.int .i64 (now+d.F.se))) ⟨d.gb,xW (d.F.nx) now tl oa10 cap10 (zg d.F),(Value.slice ob6 (d.F.zs.length+1) cap6),fun i=>d.K i∨(w9.heap.size≤i∧i < w10.heap.size)⟩:=by
   have glt:=zA G9.out.b;have mo:∀z,ua d.K w10 z→ua (fun i=>d.K i∨(w9.heap.size≤i∧i < w10.heap.size)) (((w10.setCell ⟨g3,k * 5+1,none⟩ (.slice oa10 tl.length cap10)).setCell ⟨g3,k * 5+3,none⟩ (.bool true)).setCell ⟨g3,k * 5+2,none⟩ (.int .i64 (now+d.F.se))) z:=fun z h=>by
    have h9:=h.fr fs fun i hi e=>G10.x3 i e hi
    exact ⟨h9.1.mono fun b h _=>.inl h,h9.2.mono fun b h _=>.inl h⟩
   refine ⟨(fs.block _ (zA G10.b) G10.x1).trans G10.b,?_,fun y hy=>?_,G.out.pos,G10.x1,fun h=>h.elim G.out.x2 fun h=>?_,fun i e h=>h.elim (fun h=>G10.x3 i e h) fun h=>?_,fun i h=>h.elim (fun h=>⟨(G10.lt i h).1,Nat.lt_of_lt_of_le (G10.lt i h).2 fs.size⟩) fun h=>⟨?_,Nat.lt_of_lt_of_le h.2 fs.size⟩⟩
   ·show zo _ _ (onZ _ _ _)
    first | rw [←hset,SE8.out] | rw [←hset]
    exact R3
   ·rcases vM hy with h1 | ⟨x,h1,-,rfl⟩
    ·exact mo y (G10.ok y h1)
    ·have h9:=mo x (G10.ok x h1)
     exact ⟨(T10.out.fr fs fun i hi e=>by have h8:=(zK G9.out.rows e).2; have h7:w9.heap.size≤i:=hi.1; omega).mono fun b h _=>.inr h,h9.2⟩
   ·have h7:w9.heap.size≤d.gb:=h.1
    have h8:d.gb < w9.heap.size:=glt;omega
   ·have h8:=(zK G9.out.rows e).2
    have h7:w9.heap.size≤i:=h.1;omega
   ·have h7:w9.heap.size≤i:=h.1
    omega
  have CM:=zz (jN g11 (by show (onZ _ _ _).length≤1000; rw [uD]; have:=MID8.out.len; omega));have F11:=zz ((F9.out.trans D10.out fun _ h=>h.elim).trans fs fun i e=>(OW8.out i e).elim (fun h=>.inl (.inr h)) fun h=>.inr h);have G11:=zz g11;have KC:=zz (show ∀i,(d.K i∨(w9.heap.size≤i∧i < w10.heap.size))→d.K i∨w.heap.size≤i from fun i h=>h.imp id fun h=>Nat.le_trans F9.out.size h.1);clear R1 R2 R3 hy1 hy2 hob1 hob2 hob3 hat1 hat2 hat3 fs G10 g11 hset;refine Lcl.wpG_run [11,12,13,14,15,16,17,18,19] _ _ _ (by kernel_rfl) ?_;simp only [List.map_cons,List.map_nil,List.getElem?_toArray,List.getElem?_cons_succ,List.getElem?_cons_zero,Option.getD_some];go_wp2_with fail
  generalize (((w10.setCell ⟨g3,k * 5+1,none⟩ (.slice oa10 tl.length cap10)).setCell ⟨g3,k * 5+3,none⟩ (.bool true)).setCell ⟨g3,k * 5+2,none⟩ (.int .i64 (now+d.F.se)))=w11 at *;clear c1 c2 c3 y1 y2 y3;refine CM.out.mono ?_;rintro e w12 ⟨rfl,f12⟩;have G12:=zz (G11.out.old f12);have F12:=zz (F11.out.trans f12 fun _ h=>h.elim);clear f12 CM;obtain ⟨cb,hcb⟩:∃cb,cb=(xW (d.F.nx) now tl oa10 cap10 (zg d.F)).zs.any fun z=>!z.m.jo:=⟨_,rfl⟩
  dsimp only;rw [←hcb];have HCB:=zz hcb;clear hcb;cases cb with
  | true=>
   go_wp2_with fail
   go_ret2
   refine .inr (.inr ⟨OK.out,JE.out,oa10,cap10,_,_,by rw [if_pos rfl]; rfl,?_,KC.out,OW8.out,F12.out⟩);rw [if_pos rfl,if_pos rfl,xA,if_pos (show (zg d.F).ph=1 from HP.out),jy,if_pos HCB.out.symm];exact G12.out
  | false=>
   have CL:=zz (uy G12.out now (by show (onZ _ _ _).length≤1000; rw [uD]; have:=MID8.out.len; omega) ⟨ht1,ht2⟩ (by have:=RE8.out; show 0≤(zg d.F).re∧(zg d.F).re≤100000; omega) (by have:=GE8.out; show 0≤(zg d.F).ge∧(zg d.F).ge≤1099511627776; omega));dsimp only at CL;go_wp2_with fail
   refine CL.out.mono ?_;rintro e w13 ⟨rfl,v13,ho13,g13,f13⟩;have H13:=zz (And.intro ho13 (And.intro g13 f13));clear ho13 g13 f13 CL;go_wp2_with fail
   go_ret2
   refine .inr (.inr ⟨OK.out,JE.out,oa10,cap10,v13,_,by rw [if_pos rfl]; rfl,?_,KC.out,fun i e=>OW8.out i (by rw [←H13.out.1]; exact e),F12.out.trans H13.out.2.2 fun i h=>h.elim (fun h=>.inl (.inl h)) fun h=>(OW8.out i h).elim (fun h=>.inl (.inr h)) fun h=>.inr h⟩);rw [if_pos rfl,if_pos rfl,xA,if_pos (show (zg d.F).ph=1 from HP.out),jy,if_neg (by rw [←HCB.out]; simp)];exact H13.out.2.1
 ·have hp1:(d.F.ph != 1)=true:=by rw [bne_iff_ne]; exact hp
  have HP:=zz hp;have AN:=zz (zEa GA.out now (by have:=MID.out.len; show (zg d.F).zs.length≤1000; omega) ⟨ht1,ht2⟩ (show 0≤d.F.re∧d.F.re≤100000 by omega));have MID8:=zz (MID.out.anew (now:=now));have OW8:=OWA;clear hp;go_wp2_with fail
  generalize (w6.setCell ⟨d.gb,6,none⟩ (.slice ob6 (d.F.zs.length+1) cap6))=w7 at *;refine AN.out.mono ?_;rintro e w8 ⟨rfl,g8,f8⟩;have G8:=zz g8;have F8:=zz (FA.out.trans f8 fun i e=>e.elim (fun e=>.inl (.inl e)) fun e=>(OWA.out i e).elim (fun h=>.inl (.inr h)) fun h=>.inr h);have SE8:=zz (show (zh now (zg d.F)).se=d.F.se from (zAv now _).2.2);have RE8:=zz (show 1≤(zh now (zg d.F)).re∧(zh now (zg d.F)).re≤100000 by rw [(zAv now _).1]; exact hre);have GE8:=zz (show 0≤(zh now (zg d.F)).ge∧(zh now (zg d.F)).ge≤N by rw [(zAv now _).2.1]; exact hge);clear g8 f8 AN;go_wp2_with fail
  have FN:=zz (yZ (zh now (zg d.F)).zs (Value.slice ob6 (d.F.zs.length+1) cap6) (d.F.nx) w8 G8.out.b G8.out.rows (by have:=MID8.out.len; omega) MID8.out.rise MID8.out.ids (by constructor <;> omega));refine FN.out.mono ?_;rintro e w9 ⟨hcase,f9⟩;rcases hcase with ⟨b,k,z,hob,hz,hzm,rfl⟩ | ⟨rfl,hno⟩
  case inr=>obtain ⟨z,hz,hzm⟩:=MID8.out.there; exact absurd hzm (hno z hz)
  have G9:=zz (G8.out.old f9);have F9:=zz (F8.out.trans f9 fun _ h=>h.elim);have HOB:=zz hob;have HZ:=zz hz;have HM:=zz hzm;have FT:=zz (TL.out.fr F9.out hk2);clear hob hz hzm f9 FN;go_wp2_with fail
  have z0:∀y:Lcl.InS (fun w'=>Fr (fun _=>False) w9 w'),y.w.cell? ⟨d.gb,0,none⟩=some (.int .i64 d.F.se):=fun y=>y.h.cel ((zB G9.out.b 0).trans (by first | rfl | (rw [←SE8.out]; rfl)))
  refine Lcl.wp_region_calm (by kernel_rfl) [(true,[0,1,2,3,5,6,7,8]),(false,[9]),(true,[10])] #[0,0,0,0,8,0,0,64,192,448,992,985,3033,7129,15323,31707,64475,131071,262143,524287] [0,1,2,3,4,5,6,7,8,9] 10 #[true,true,true,true,false,true,true,true,true,true,true,false,false,false,false,false,false,false,false,false] (by kernel_rfl) (by kernel_rfl) (by kernel_rfl) (fun w'=>Fr (fun _=>False) w9 w') (Fr.same w9).drew (fun d c a v w h=>by cases d <;> exact h) ?_;simp only [Lcl.opsOf,List.map_cons,List.map_nil,List.getElem?_toArray,List.getElem?_cons_succ,List.getElem?_cons_zero,Option.getD_some];refine Lcl.wpCalm_t ?_
  repeat (go_big_quiet_step (rfl))
  refine wpQuiet_nil ?_;refine Lcl.wpCalm_f ?_
  repeat (go_big_quiet_step (rfl))
  refine wpQuiet_nil ?_;refine Lcl.wpCalm_t ?_
  repeat (go_big_quiet_step (rfl))
  refine wpQuiet_nil ?_;refine Lcl.wpCalm_nil ?_;clear z0;have fd:Fr (fun _=>False) w9 w9.drew:=(Fr.same w9).drew;have FD:=zz fd;have SC:=zz (uO tl (.slice ta tn tc) w9.drew (FT.out.fr fd fun _ _ h=>h) hl);have DSZ:=zz (show w9.drew.heap.size=w9.heap.size from rfl);clear fd;generalize w9.drew=wd at *;refine Lcl.wpG_one 4 rfl (by kernel_rfl) ?_;go_wp2_with fail
  refine SC.out.mono ?_;rintro e w10 ⟨v10,rfl,hr10,f10⟩;obtain ⟨oa10,cap10,rfl,-⟩:=id hr10;have D10:=zz (FD.out.tr f10);have T10:=zz (hr10.mono (K':=fun i=>w9.heap.size≤i∧i < w10.heap.size) fun b h1 h2=>⟨by rw [←DSZ.out]; exact h1,h2⟩);clear hr10 f10 SC;go_wp2_with fail
  refine ⟨fun _ _=>D10.out,?_⟩;have G10:=G9.out.old D10.out;have hkl:=(List.getElem?_eq_some_iff.1 HZ.out).1;have R1:=G10.rows.set HOB.out (k:=k) (j:=1) (u:=.slice oa10 tl.length cap10) (z':= { z with m:= { z.m with tl:=tl },ta:=oa10,tn:=tl.length,tc:=cap10 }) HZ.out (by omega) rfl;have hy1:((zh now (zg d.F)).zs.set k { z with m:= { z.m with tl:=tl },ta:=oa10,tn:=tl.length,tc:=cap10 })[k]?=some { z with m:= { z.m with tl:=tl },ta:=oa10,tn:=tl.length,tc:=cap10 } :=List.getElem?_set_self hkl;have R2:=R1.set HOB.out (k:=k) (j:=3) (u:=.bool true) (z:= { z with m:= { z.m with tl:=tl },ta:=oa10,tn:=tl.length,tc:=cap10 }) (z':= { z with m:= { z.m with tl:=tl,jo:=true },ta:=oa10,tn:=tl.length,tc:=cap10 }) hy1 (by omega) rfl;rw [List.set_set] at R2;have hy2:((zh now (zg d.F)).zs.set k { z with m:= { z.m with tl:=tl,jo:=true },ta:=oa10,tn:=tl.length,tc:=cap10 })[k]?=some { z with m:= { z.m with tl:=tl,jo:=true },ta:=oa10,tn:=tl.length,tc:=cap10 } :=List.getElem?_set_self hkl;have R3:=R2.set HOB.out (k:=k) (j:=2) (u:=.int .i64 (now+d.F.se)) (z:= { z with m:= { z.m with tl:=tl,jo:=true },ta:=oa10,tn:=tl.length,tc:=cap10 }) (z':= { z with m:= { z.m with tl:=tl,jo:=true,un:=now+d.F.se },ta:=oa10,tn:=tl.length,tc:=cap10 }) hy2 (by omega) rfl;rw [List.set_set] at R3;obtain ⟨g1,-,-,hob1,hat1⟩:=G10.rows.at HZ.out;obtain rfl:g1=b:=Option.some.inj (hob1.symm.trans HOB.out);obtain ⟨g2,-,-,hob2,hat2⟩:=R1.at hy1;obtain rfl:g2=g1:=Option.some.inj (hob2.symm.trans HOB.out);obtain ⟨g3,-,-,hob3,hat3⟩:=R2.at hy2;obtain rfl:g3=g2:=Option.some.inj (hob3.symm.trans HOB.out);have c1:=hat1.c1;have c3:=hat2.c3;have c2:=hat3.c2;have y1:=(G10.rows.there HOB.out (j:=k * 5+1) (show k * 5+1 < (zh now (zg d.F)).zs.length * 5 by omega)).2;have y3:=(R1.there HOB.out (j:=k * 5+3) (by rw [List.length_set]; show k * 5+3 < (zh now (zg d.F)).zs.length * 5; omega)).2;have y2:=(R2.there HOB.out (j:=k * 5+2) (by rw [List.length_set]; show k * 5+2 < (zh now (zg d.F)).zs.length * 5; omega)).2;have fs:Fr (fun i=>((Value.slice ob6 (d.F.zs.length+1) cap6)).ownBlock=some i) w10 (((w10.setCell ⟨g3,k * 5+1,none⟩ (.slice oa10 tl.length cap10)).setCell ⟨g3,k * 5+3,none⟩ (.bool true)).setCell ⟨g3,k * 5+2,none⟩ (.int .i64 (now+d.F.se))):=(((Fr.refl (fun i=>((Value.slice ob6 (d.F.zs.length+1) cap6)).ownBlock=some i) w10).setCell (p:=⟨g3,k * 5+1,none⟩) (.inl HOB.out) _).setCell (p:=⟨g3,k * 5+3,none⟩) (.inl HOB.out) _).setCell (p:=⟨g3,k * 5+2,none⟩) (.inl HOB.out) _;have hset:=zCx (t:=fun z=> { z with m:= { z.m with tl:=tl,jo:=true,un:=now+(zh now (zg d.F)).se },ta:=oa10,tn:=tl.length,tc:=cap10 }) MID8.out.rise HZ.out HM.out;have g11:zu (((w10.setCell ⟨g3,k * 5+1,none⟩ (.slice oa10 tl.length cap10)).setCell ⟨g3,k * 5+3,none⟩ (.bool true)).setCell ⟨g3,k * 5+2,none⟩ (.int .i64 (now+d.F.se))) ⟨d.gb,xW (d.F.nx) now tl oa10 cap10 (zh now (zg d.F)),(Value.slice ob6 (d.F.zs.length+1) cap6),fun i=>d.K i∨(w9.heap.size≤i∧i < w10.heap.size)⟩:=by
   have glt:=zA G9.out.b;have mo:∀z,ua d.K w10 z→ua (fun i=>d.K i∨(w9.heap.size≤i∧i < w10.heap.size)) (((w10.setCell ⟨g3,k * 5+1,none⟩ (.slice oa10 tl.length cap10)).setCell ⟨g3,k * 5+3,none⟩ (.bool true)).setCell ⟨g3,k * 5+2,none⟩ (.int .i64 (now+d.F.se))) z:=fun z h=>by
    have h9:=h.fr fs fun i hi e=>G10.x3 i e hi
    exact ⟨h9.1.mono fun b h _=>.inl h,h9.2.mono fun b h _=>.inl h⟩
   refine ⟨(fs.block _ (zA G10.b) G10.x1).trans G10.b,?_,fun y hy=>?_,G.out.pos,G10.x1,fun h=>h.elim G.out.x2 fun h=>?_,fun i e h=>h.elim (fun h=>G10.x3 i e h) fun h=>?_,fun i h=>h.elim (fun h=>⟨(G10.lt i h).1,Nat.lt_of_lt_of_le (G10.lt i h).2 fs.size⟩) fun h=>⟨?_,Nat.lt_of_lt_of_le h.2 fs.size⟩⟩
   ·show zo _ _ (onZ _ _ _)
    first | rw [←hset,SE8.out] | rw [←hset]
    exact R3
   ·rcases vM hy with h1 | ⟨x,h1,-,rfl⟩
    ·exact mo y (G10.ok y h1)
    ·have h9:=mo x (G10.ok x h1)
     exact ⟨(T10.out.fr fs fun i hi e=>by have h8:=(zK G9.out.rows e).2; have h7:w9.heap.size≤i:=hi.1; omega).mono fun b h _=>.inr h,h9.2⟩
   ·have h7:w9.heap.size≤d.gb:=h.1
    have h8:d.gb < w9.heap.size:=glt;omega
   ·have h8:=(zK G9.out.rows e).2
    have h7:w9.heap.size≤i:=h.1;omega
   ·have h7:w9.heap.size≤i:=h.1
    omega
  have CM:=zz (jN g11 (by show (onZ _ _ _).length≤1000; rw [uD]; have:=MID8.out.len; omega));have F11:=zz ((F9.out.trans D10.out fun _ h=>h.elim).trans fs fun i e=>(OW8.out i e).elim (fun h=>.inl (.inr h)) fun h=>.inr h);have G11:=zz g11;have KC:=zz (show ∀i,(d.K i∨(w9.heap.size≤i∧i < w10.heap.size))→d.K i∨w.heap.size≤i from fun i h=>h.imp id fun h=>Nat.le_trans F9.out.size h.1);clear R1 R2 R3 hy1 hy2 hob1 hob2 hob3 hat1 hat2 hat3 fs G10 g11 hset;refine Lcl.wpG_run [11,12,13,14,15,16,17,18,19] _ _ _ (by kernel_rfl) ?_;simp only [List.map_cons,List.map_nil,List.getElem?_toArray,List.getElem?_cons_succ,List.getElem?_cons_zero,Option.getD_some];go_wp2_with fail
  generalize (((w10.setCell ⟨g3,k * 5+1,none⟩ (.slice oa10 tl.length cap10)).setCell ⟨g3,k * 5+3,none⟩ (.bool true)).setCell ⟨g3,k * 5+2,none⟩ (.int .i64 (now+d.F.se)))=w11 at *;clear c1 c2 c3 y1 y2 y3;refine CM.out.mono ?_;rintro e w12 ⟨rfl,f12⟩;have G12:=zz (G11.out.old f12);have F12:=zz (F11.out.trans f12 fun _ h=>h.elim);clear f12 CM;obtain ⟨cb,hcb⟩:∃cb,cb=(xW (d.F.nx) now tl oa10 cap10 (zh now (zg d.F))).zs.any fun z=>!z.m.jo:=⟨_,rfl⟩
  dsimp only;rw [←hcb];have HCB:=zz hcb;clear hcb;cases cb with
  | true=>
   go_wp2_with fail
   go_ret2
   refine .inr (.inr ⟨OK.out,JE.out,oa10,cap10,_,_,by rw [if_pos rfl]; rfl,?_,KC.out,OW8.out,F12.out⟩);rw [if_pos rfl,if_pos rfl,xA,if_neg (show ¬(zg d.F).ph=1 from HP.out),jy,if_pos HCB.out.symm];exact G12.out
  | false=>
   have CL:=zz (uy G12.out now (by show (onZ _ _ _).length≤1000; rw [uD]; have:=MID8.out.len; omega) ⟨ht1,ht2⟩ (by have:=RE8.out; show 0≤(zh now (zg d.F)).re∧(zh now (zg d.F)).re≤100000; omega) (by have:=GE8.out; show 0≤(zh now (zg d.F)).ge∧(zh now (zg d.F)).ge≤1099511627776; omega));dsimp only at CL;go_wp2_with fail
   refine CL.out.mono ?_;rintro e w13 ⟨rfl,v13,ho13,g13,f13⟩;have H13:=zz (And.intro ho13 (And.intro g13 f13));clear ho13 g13 f13 CL;go_wp2_with fail
   go_ret2
   refine .inr (.inr ⟨OK.out,JE.out,oa10,cap10,v13,_,by rw [if_pos rfl]; rfl,?_,KC.out,fun i e=>OW8.out i (by rw [←H13.out.1]; exact e),F12.out.trans H13.out.2.2 fun i h=>h.elim (fun h=>.inl (.inl h)) fun h=>(OW8.out i h).elim (fun h=>.inl (.inr h)) fun h=>.inr h⟩);rw [if_pos rfl,if_pos rfl,xA,if_neg (show ¬(zg d.F).ph=1 from HP.out),jy,if_neg (by rw [←HCB.out]; simp)];exact H13.out.2.1
theorem join_okB {d:zj} (h:zu w d) {N:Nat} (hi:yL d.F N) (hN:N≤1000000) (tl:List ByteArray) (ta:Option Addr) (tn tc:Nat) (htl:xS K2 w (.slice ta tn tc) tl) (hk2:∀i,K2 i→¬d.W i) (hl:tl.length≤1000) (m now:Int) (hm:-1≤m∧m≤2199023255552) (hok:vB m now tl) (hje:yX m d.F=0) (hm9:¬m= -1):
  Calls Tryz.prog 139 #[.pointer (some ⟨d.gb,0,none⟩),.int .i64 m,.slice ta tn tc,.int .i64 now] w (zCz d m now tl w):=by
 have f1:=(Fr.same w).alloc (.cells #[.int .i64 0,.slice ta tn tc] 314);have f2:=f1.alloc (.cells #[.int .i64 0,.slice ta tn tc] 314);have s1:(w.alloc (.cells #[.int .i64 0,.slice ta tn tc] 314)).heap.size=w.heap.size+1:=by simp
 have x1:=zC w (.cells #[.int .i64 0,.slice ta tn tc] 314);have x2:=zC (w.alloc (.cells #[.int .i64 0,.slice ta tn tc] 314)) (.cells #[.int .i64 0,.slice ta tn tc] 314);rw [s1] at x2;have IT:=zz (jW (w:=w.alloc (.cells #[.int .i64 0,.slice ta tn tc] 314)) now);have CK:=zz (vA [⟨0,tl,ta,tn,tc⟩] [] (.slice (some ⟨w.heap.size+1,0,none⟩) 1 1) (.slice none 0 0) ⟨_,_,rfl,fun i z hz=>by
   have hi:=(List.getElem?_eq_some_iff.1 hz).1;obtain rfl:i=0:=by simpa using hi
   simp at hz;subst hz;exact ⟨_,rfl,(zB x2 0).trans rfl,(zB x2 1).trans rfl⟩⟩ jq.nil (K:=K2) (fun z hz=>by
   rw [List.mem_singleton] at hz;subst hz;exact htl.fr f2 fun _ _ h=>h) (fun z hz=>by
   rw [List.mem_singleton] at hz;subst hz;exact hl) (by simp) (by simp))
 have FW:=zz (fun w' (hf:Fr (fun _=>False) w w')=>yZ d.F.zs d.v m w' (h.old hf).b (h.old hf).rows (by have:=hi.len; omega) hi.rise (hi.idz hN) hm);have G:=zz h;have TL:=zz htl;obtain ⟨oa,cap,hv⟩:=id h.rows.slice;have HV:=zz hv;have F2:=zz f2;have dx:=fun j=>zB x1 j
 have hm1:=hm.1;have ht:=hok.1;have OK:=zz hok;have JE:=zz hje;have hre:=hi.re;have hse:=hi.se;have hge:=hi.ge;have hnx:=hi.nx;have hlen:=hi.len;clear f1 f2 s1 x1 x2 h hv htl hok hje;rw [decide_eq_true ht] at IT;have ht1:=ht.1;have ht2:=ht.2;clear ht;go_enter Tryz.func139,Tryz.ntmps139
 go_wp2_with fail
 refine IT.out.mono ?_;rintro e w2 ⟨rfl,hw⟩;obtain rfl:=hw.symm;clear IT;go_wp2_with fail
 refine CK.out.mono ?_;rintro e w3 ⟨hcase,f3⟩;have F3:=zz (F2.out.tr f3);clear f3 CK dx;rcases hcase with ⟨rfl,-⟩ | ⟨rfl,hp⟩
 case inr=>exact absurd ((zCy _ _ _ _).2 OK.out.2.2) hp
 have G3:=zz (G.out.old F3.out);have d3:=fun j=>zB G3.out.b j
 have z3:=fun j=>zd G3.out.b j
 rw [HV.out] at d3;have HM9:=zz hm9;have hm8:(m != -1)=true:=by rw [bne_iff_ne]; exact hm9
 have hm7:(m == -1)=false:=by rw [beq_eq_false_iff_ne]; exact hm9
 have FX:=FW.out w3 F3.out;have NO:=zz (show ¬(d.F.zs.any fun z=>z.m.id == m)=false from fun h=>by have:=JE.out; rw [yX,if_neg hm9,if_pos h] at this; cases this);clear hm9;go_wp2_with fail
 refine FX.mono ?_;rintro e w4 ⟨hcase,f4⟩;have FA:=zz ((F3.out.tr f4).mono (S':=d.W) fun _ h=>h.elim);have GA:=zz (G3.out.old f4);have d4:=fun j=>zB (G3.out.old f4).b j
 have OWA:=zz (show ∀i,d.v.ownBlock=some i→d.v.ownBlock=some i∨w.heap.size≤i from fun i e=>.inl e);clear f4 FX d3 z3;rcases hcase with ⟨b,k,z,hob,hz,hzm,rfl⟩ | ⟨rfl,hno⟩
 case inr=>exact absurd (List.any_eq_false.2 fun z hz=>by simp [hno z hz]) NO.out
 have MID:=zz (show Mid d.F m from ⟨by omega,hi.rise,hi.idz hN,⟨z,List.mem_of_getElem? hz,hzm⟩⟩);clear hob hz hzm;by_cases hp:d.F.ph=1
 ·have hp1:(d.F.ph != 1)=false:=by rw [hp]; rfl
  have HP:=zz hp;have G8:=GA;have F8:=FA;have OW8:=OWA;have MID8:=MID;have SE8:=zz (show d.F.se=d.F.se from rfl);have RE8:=zz (show 1≤d.F.re∧d.F.re≤100000 from hre);have GE8:=zz (show 0≤d.F.ge∧d.F.ge≤N from hge);clear hp;go_wp2_with fail
  have FN:=zz (yZ (d.F).zs d.v (m) w4 G8.out.b G8.out.rows (by have:=MID8.out.len; omega) MID8.out.rise MID8.out.ids (by constructor <;> omega));refine FN.out.mono ?_;rintro e w9 ⟨hcase,f9⟩;rcases hcase with ⟨b,k,z,hob,hz,hzm,rfl⟩ | ⟨rfl,hno⟩
  case inr=>obtain ⟨z,hz,hzm⟩:=MID8.out.there; exact absurd hzm (hno z hz)
  have G9:=zz (G8.out.old f9);have F9:=zz (F8.out.trans f9 fun _ h=>h.elim);have HOB:=zz hob;have HZ:=zz hz;have HM:=zz hzm;have FT:=zz (TL.out.fr F9.out hk2);clear hob hz hzm f9 FN;go_wp2_with fail
  have z0:∀y:Lcl.InS (fun w'=>Fr (fun _=>False) w9 w'),y.w.cell? ⟨d.gb,0,none⟩=some (.int .i64 d.F.se):=fun y=>y.h.cel ((zB G9.out.b 0).trans (by first | rfl | (rw [←SE8.out]; rfl)))
  refine Lcl.wp_region_calm (by kernel_rfl) [(true,[0,1,2,3,5,6,7,8]),(false,[9]),(true,[10])] #[0,0,0,0,8,0,0,64,192,448,992,985,3033,7129,15323,31707,64475,131071,262143,524287] [0,1,2,3,4,5,6,7,8,9] 10 #[true,true,true,true,false,true,true,true,true,true,true,false,false,false,false,false,false,false,false,false] (by kernel_rfl) (by kernel_rfl) (by kernel_rfl) (fun w'=>Fr (fun _=>False) w9 w') (Fr.same w9).drew (fun d c a v w h=>by cases d <;> exact h) ?_;simp only [Lcl.opsOf,List.map_cons,List.map_nil,List.getElem?_toArray,List.getElem?_cons_succ,List.getElem?_cons_zero,Option.getD_some];refine Lcl.wpCalm_t ?_
  repeat (go_big_quiet_step (rfl))
  refine wpQuiet_nil ?_;refine Lcl.wpCalm_f ?_
  repeat (go_big_quiet_step (rfl))
  refine wpQuiet_nil ?_;refine Lcl.wpCalm_t ?_
  repeat (go_big_quiet_step (rfl))
  refine wpQuiet_nil ?_;refine Lcl.wpCalm_nil ?_;clear z0;have fd:Fr (fun _=>False) w9 w9.drew:=(Fr.same w9).drew;have FD:=zz fd;have SC:=zz (uO tl (.slice ta tn tc) w9.drew (FT.out.fr fd fun _ _ h=>h) hl);have DSZ:=zz (show w9.drew.heap.size=w9.heap.size from rfl);clear fd;generalize w9.drew=wd at *;refine Lcl.wpG_one 4 rfl (by kernel_rfl) ?_;go_wp2_with fail
  refine SC.out.mono ?_;rintro e w10 ⟨v10,rfl,hr10,f10⟩;obtain ⟨oa10,cap10,rfl,-⟩:=id hr10;have D10:=zz (FD.out.tr f10);have T10:=zz (hr10.mono (K':=fun i=>w9.heap.size≤i∧i < w10.heap.size) fun b h1 h2=>⟨by rw [←DSZ.out]; exact h1,h2⟩);clear hr10 f10 SC;go_wp2_with fail
  refine ⟨fun _ _=>D10.out,?_⟩;have G10:=G9.out.old D10.out;have hkl:=(List.getElem?_eq_some_iff.1 HZ.out).1;have R1:=G10.rows.set HOB.out (k:=k) (j:=1) (u:=.slice oa10 tl.length cap10) (z':= { z with m:= { z.m with tl:=tl },ta:=oa10,tn:=tl.length,tc:=cap10 }) HZ.out (by omega) rfl;have hy1:((d.F).zs.set k { z with m:= { z.m with tl:=tl },ta:=oa10,tn:=tl.length,tc:=cap10 })[k]?=some { z with m:= { z.m with tl:=tl },ta:=oa10,tn:=tl.length,tc:=cap10 } :=List.getElem?_set_self hkl;have R2:=R1.set HOB.out (k:=k) (j:=3) (u:=.bool true) (z:= { z with m:= { z.m with tl:=tl },ta:=oa10,tn:=tl.length,tc:=cap10 }) (z':= { z with m:= { z.m with tl:=tl,jo:=true },ta:=oa10,tn:=tl.length,tc:=cap10 }) hy1 (by omega) rfl;rw [List.set_set] at R2;have hy2:((d.F).zs.set k { z with m:= { z.m with tl:=tl,jo:=true },ta:=oa10,tn:=tl.length,tc:=cap10 })[k]?=some { z with m:= { z.m with tl:=tl,jo:=true },ta:=oa10,tn:=tl.length,tc:=cap10 } :=List.getElem?_set_self hkl;have R3:=R2.set HOB.out (k:=k) (j:=2) (u:=.int .i64 (now+d.F.se)) (z:= { z with m:= { z.m with tl:=tl,jo:=true },ta:=oa10,tn:=tl.length,tc:=cap10 }) (z':= { z with m:= { z.m with tl:=tl,jo:=true,un:=now+d.F.se },ta:=oa10,tn:=tl.length,tc:=cap10 }) hy2 (by omega) rfl;rw [List.set_set] at R3;obtain ⟨g1,-,-,hob1,hat1⟩:=G10.rows.at HZ.out;obtain rfl:g1=b:=Option.some.inj (hob1.symm.trans HOB.out);obtain ⟨g2,-,-,hob2,hat2⟩:=R1.at hy1;obtain rfl:g2=g1:=Option.some.inj (hob2.symm.trans HOB.out);obtain ⟨g3,-,-,hob3,hat3⟩:=R2.at hy2;obtain rfl:g3=g2:=Option.some.inj (hob3.symm.trans HOB.out);have c1:=hat1.c1;have c3:=hat2.c3;have c2:=hat3.c2;have y1:=(G10.rows.there HOB.out (j:=k * 5+1) (show k * 5+1 < (d.F).zs.length * 5 by omega)).2;have y3:=(R1.there HOB.out (j:=k * 5+3) (by rw [List.length_set]; show k * 5+3 < (d.F).zs.length * 5; omega)).2;have y2:=(R2.there HOB.out (j:=k * 5+2) (by rw [List.length_set]; show k * 5+2 < (d.F).zs.length * 5; omega)).2;have fs:Fr (fun i=>(d.v).ownBlock=some i) w10 (((w10.setCell ⟨g3,k * 5+1,none⟩ (.slice oa10 tl.length cap10)).setCell ⟨g3,k * 5+3,none⟩ (.bool true)).setCell ⟨g3,k * 5+2,none⟩ (.int .i64 (now+d.F.se))):=(((Fr.refl (fun i=>(d.v).ownBlock=some i) w10).setCell (p:=⟨g3,k * 5+1,none⟩) (.inl HOB.out) _).setCell (p:=⟨g3,k * 5+3,none⟩) (.inl HOB.out) _).setCell (p:=⟨g3,k * 5+2,none⟩) (.inl HOB.out) _;have hset:=zCx (t:=fun z=> { z with m:= { z.m with tl:=tl,jo:=true,un:=now+(d.F).se },ta:=oa10,tn:=tl.length,tc:=cap10 }) MID8.out.rise HZ.out HM.out;have g11:zu (((w10.setCell ⟨g3,k * 5+1,none⟩ (.slice oa10 tl.length cap10)).setCell ⟨g3,k * 5+3,none⟩ (.bool true)).setCell ⟨g3,k * 5+2,none⟩ (.int .i64 (now+d.F.se))) ⟨d.gb,xW (m) now tl oa10 cap10 (d.F),d.v,fun i=>d.K i∨(w9.heap.size≤i∧i < w10.heap.size)⟩:=by
   have glt:=zA G9.out.b;have mo:∀z,ua d.K w10 z→ua (fun i=>d.K i∨(w9.heap.size≤i∧i < w10.heap.size)) (((w10.setCell ⟨g3,k * 5+1,none⟩ (.slice oa10 tl.length cap10)).setCell ⟨g3,k * 5+3,none⟩ (.bool true)).setCell ⟨g3,k * 5+2,none⟩ (.int .i64 (now+d.F.se))) z:=fun z h=>by
    have h9:=h.fr fs fun i hi e=>G10.x3 i e hi
    exact ⟨h9.1.mono fun b h _=>.inl h,h9.2.mono fun b h _=>.inl h⟩
   refine ⟨(fs.block _ (zA G10.b) G10.x1).trans G10.b,?_,fun y hy=>?_,G.out.pos,G10.x1,fun h=>h.elim G.out.x2 fun h=>?_,fun i e h=>h.elim (fun h=>G10.x3 i e h) fun h=>?_,fun i h=>h.elim (fun h=>⟨(G10.lt i h).1,Nat.lt_of_lt_of_le (G10.lt i h).2 fs.size⟩) fun h=>⟨?_,Nat.lt_of_lt_of_le h.2 fs.size⟩⟩
   ·show zo _ _ (onZ _ _ _)
    first | rw [←hset,SE8.out] | rw [←hset]
    exact R3
   ·rcases vM hy with h1 | ⟨x,h1,-,rfl⟩
    ·exact mo y (G10.ok y h1)
    ·have h9:=mo x (G10.ok x h1)
     exact ⟨(T10.out.fr fs fun i hi e=>by have h8:=(zK G9.out.rows e).2; have h7:w9.heap.size≤i:=hi.1; omega).mono fun b h _=>.inr h,h9.2⟩
   ·have h7:w9.heap.size≤d.gb:=h.1
    have h8:d.gb < w9.heap.size:=glt;omega
   ·have h8:=(zK G9.out.rows e).2
    have h7:w9.heap.size≤i:=h.1;omega
   ·have h7:w9.heap.size≤i:=h.1
    omega
  have CM:=zz (jN g11 (by show (onZ _ _ _).length≤1000; rw [uD]; have:=MID8.out.len; omega));have F11:=zz ((F9.out.trans D10.out fun _ h=>h.elim).trans fs fun i e=>(OW8.out i e).elim (fun h=>.inl (.inr h)) fun h=>.inr h);have G11:=zz g11;have KC:=zz (show ∀i,(d.K i∨(w9.heap.size≤i∧i < w10.heap.size))→d.K i∨w.heap.size≤i from fun i h=>h.imp id fun h=>Nat.le_trans F9.out.size h.1);clear R1 R2 R3 hy1 hy2 hob1 hob2 hob3 hat1 hat2 hat3 fs G10 g11 hset;refine Lcl.wpG_run [11,12,13,14,15,16,17,18,19] _ _ _ (by kernel_rfl) ?_;simp only [List.map_cons,List.map_nil,List.getElem?_toArray,List.getElem?_cons_succ,List.getElem?_cons_zero,Option.getD_some];go_wp2_with fail
  generalize (((w10.setCell ⟨g3,k * 5+1,none⟩ (.slice oa10 tl.length cap10)).setCell ⟨g3,k * 5+3,none⟩ (.bool true)).setCell ⟨g3,k * 5+2,none⟩ (.int .i64 (now+d.F.se)))=w11 at *;clear c1 c2 c3 y1 y2 y3;refine CM.out.mono ?_;rintro e w12 ⟨rfl,f12⟩;have G12:=zz (G11.out.old f12);have F12:=zz (F11.out.trans f12 fun _ h=>h.elim);clear f12 CM;obtain ⟨cb,hcb⟩:∃cb,cb=(xW (m) now tl oa10 cap10 (d.F)).zs.any fun z=>!z.m.jo:=⟨_,rfl⟩
  dsimp only;rw [←hcb];have HCB:=zz hcb;clear hcb;cases cb with
  | true=>
   go_wp2_with fail
   go_ret2
   refine .inr (.inr ⟨OK.out,JE.out,oa10,cap10,_,_,by rw [if_neg HM9.out]; rfl,?_,KC.out,OW8.out,F12.out⟩);rw [if_neg HM9.out,if_neg HM9.out,xA,if_pos HP.out,jy,if_pos HCB.out.symm];exact G12.out
  | false=>
   have CL:=zz (uy G12.out now (by show (onZ _ _ _).length≤1000; rw [uD]; have:=MID8.out.len; omega) ⟨ht1,ht2⟩ (by have:=RE8.out; show 0≤(d.F).re∧(d.F).re≤100000; omega) (by have:=GE8.out; show 0≤(d.F).ge∧(d.F).ge≤1099511627776; omega));dsimp only at CL;go_wp2_with fail
   refine CL.out.mono ?_;rintro e w13 ⟨rfl,v13,ho13,g13,f13⟩;have H13:=zz (And.intro ho13 (And.intro g13 f13));clear ho13 g13 f13 CL;go_wp2_with fail
   go_ret2
   refine .inr (.inr ⟨OK.out,JE.out,oa10,cap10,v13,_,by rw [if_neg HM9.out]; rfl,?_,KC.out,fun i e=>OW8.out i (by rw [←H13.out.1]; exact e),F12.out.trans H13.out.2.2 fun i h=>h.elim (fun h=>.inl (.inl h)) fun h=>(OW8.out i h).elim (fun h=>.inl (.inr h)) fun h=>.inr h⟩);rw [if_neg HM9.out,if_neg HM9.out,xA,if_pos HP.out,jy,if_neg (by rw [←HCB.out]; simp)];exact H13.out.2.1
 ·have hp1:(d.F.ph != 1)=true:=by rw [bne_iff_ne]; exact hp
  have HP:=zz hp;have AN:=zz (zEa GA.out now (by omega) ⟨ht1,ht2⟩ (show 0≤d.F.re∧d.F.re≤100000 by omega));have MID8:=zz (MID.out.anew (now:=now));have OW8:=OWA;clear hp;go_wp2_with fail
  refine AN.out.mono ?_;rintro e w8 ⟨rfl,g8,f8⟩;have G8:=zz g8;have F8:=zz (FA.out.trans f8 fun i e=>e.elim (fun e=>.inl (.inl e)) fun e=>(OWA.out i e).elim (fun h=>.inl (.inr h)) fun h=>.inr h);have SE8:=zz (show (zh now (d.F)).se=d.F.se from (zAv now _).2.2);have RE8:=zz (show 1≤(zh now (d.F)).re∧(zh now (d.F)).re≤100000 by rw [(zAv now _).1]; exact hre);have GE8:=zz (show 0≤(zh now (d.F)).ge∧(zh now (d.F)).ge≤N by rw [(zAv now _).2.1]; exact hge);clear g8 f8 AN;go_wp2_with fail
  have FN:=zz (yZ (zh now d.F).zs d.v (m) w8 G8.out.b G8.out.rows (by have:=MID8.out.len; omega) MID8.out.rise MID8.out.ids (by constructor <;> omega));refine FN.out.mono ?_;rintro e w9 ⟨hcase,f9⟩;rcases hcase with ⟨b,k,z,hob,hz,hzm,rfl⟩ | ⟨rfl,hno⟩
  case inr=>obtain ⟨z,hz,hzm⟩:=MID8.out.there; exact absurd hzm (hno z hz)
  have G9:=zz (G8.out.old f9);have F9:=zz (F8.out.trans f9 fun _ h=>h.elim);have HOB:=zz hob;have HZ:=zz hz;have HM:=zz hzm;have FT:=zz (TL.out.fr F9.out hk2);clear hob hz hzm f9 FN;go_wp2_with fail
  have z0:∀y:Lcl.InS (fun w'=>Fr (fun _=>False) w9 w'),y.w.cell? ⟨d.gb,0,none⟩=some (.int .i64 d.F.se):=fun y=>y.h.cel ((zB G9.out.b 0).trans (by first | rfl | (rw [←SE8.out]; rfl)))
  refine Lcl.wp_region_calm (by kernel_rfl) [(true,[0,1,2,3,5,6,7,8]),(false,[9]),(true,[10])] #[0,0,0,0,8,0,0,64,192,448,992,985,3033,7129,15323,31707,64475,131071,262143,524287] [0,1,2,3,4,5,6,7,8,9] 10 #[true,true,true,true,false,true,true,true,true,true,true,false,false,false,false,false,false,false,false,false] (by kernel_rfl) (by kernel_rfl) (by kernel_rfl) (fun w'=>Fr (fun _=>False) w9 w') (Fr.same w9).drew (fun d c a v w h=>by cases d <;> exact h) ?_;simp only [Lcl.opsOf,List.map_cons,List.map_nil,List.getElem?_toArray,List.getElem?_cons_succ,List.getElem?_cons_zero,Option.getD_some];refine Lcl.wpCalm_t ?_
  repeat (go_big_quiet_step (rfl))
  refine wpQuiet_nil ?_;refine Lcl.wpCalm_f ?_
  repeat (go_big_quiet_step (rfl))
  refine wpQuiet_nil ?_;refine Lcl.wpCalm_t ?_
  repeat (go_big_quiet_step (rfl))
  refine wpQuiet_nil ?_;refine Lcl.wpCalm_nil ?_;clear z0;have fd:Fr (fun _=>False) w9 w9.drew:=(Fr.same w9).drew;have FD:=zz fd;have SC:=zz (uO tl (.slice ta tn tc) w9.drew (FT.out.fr fd fun _ _ h=>h) hl);have DSZ:=zz (show w9.drew.heap.size=w9.heap.size from rfl);clear fd;generalize w9.drew=wd at *;refine Lcl.wpG_one 4 rfl (by kernel_rfl) ?_;go_wp2_with fail
  refine SC.out.mono ?_;rintro e w10 ⟨v10,rfl,hr10,f10⟩;obtain ⟨oa10,cap10,rfl,-⟩:=id hr10;have D10:=zz (FD.out.tr f10);have T10:=zz (hr10.mono (K':=fun i=>w9.heap.size≤i∧i < w10.heap.size) fun b h1 h2=>⟨by rw [←DSZ.out]; exact h1,h2⟩);clear hr10 f10 SC;go_wp2_with fail
  refine ⟨fun _ _=>D10.out,?_⟩;have G10:=G9.out.old D10.out;have hkl:=(List.getElem?_eq_some_iff.1 HZ.out).1;have R1:=G10.rows.set HOB.out (k:=k) (j:=1) (u:=.slice oa10 tl.length cap10) (z':= { z with m:= { z.m with tl:=tl },ta:=oa10,tn:=tl.length,tc:=cap10 }) HZ.out (by omega) rfl;have hy1:((zh now d.F).zs.set k { z with m:= { z.m with tl:=tl },ta:=oa10,tn:=tl.length,tc:=cap10 })[k]?=some { z with m:= { z.m with tl:=tl },ta:=oa10,tn:=tl.length,tc:=cap10 } :=List.getElem?_set_self hkl;have R2:=R1.set HOB.out (k:=k) (j:=3) (u:=.bool true) (z:= { z with m:= { z.m with tl:=tl },ta:=oa10,tn:=tl.length,tc:=cap10 }) (z':= { z with m:= { z.m with tl:=tl,jo:=true },ta:=oa10,tn:=tl.length,tc:=cap10 }) hy1 (by omega) rfl;rw [List.set_set] at R2;have hy2:((zh now d.F).zs.set k { z with m:= { z.m with tl:=tl,jo:=true },ta:=oa10,tn:=tl.length,tc:=cap10 })[k]?=some { z with m:= { z.m with tl:=tl,jo:=true },ta:=oa10,tn:=tl.length,tc:=cap10 } :=List.getElem?_set_self hkl;have R3:=R2.set HOB.out (k:=k) (j:=2) (u:=.int .i64 (now+d.F.se)) (z:= { z with m:= { z.m with tl:=tl,jo:=true },ta:=oa10,tn:=tl.length,tc:=cap10 }) (z':= { z with m:= { z.m with tl:=tl,jo:=true,un:=now+d.F.se },ta:=oa10,tn:=tl.length,tc:=cap10 }) hy2 (by omega) rfl;rw [List.set_set] at R3;obtain ⟨g1,-,-,hob1,hat1⟩:=G10.rows.at HZ.out;obtain rfl:g1=b:=Option.some.inj (hob1.symm.trans HOB.out);obtain ⟨g2,-,-,hob2,hat2⟩:=R1.at hy1;obtain rfl:g2=g1:=Option.some.inj (hob2.symm.trans HOB.out);obtain ⟨g3,-,-,hob3,hat3⟩:=R2.at hy2;obtain rfl:g3=g2:=Option.some.inj (hob3.symm.trans HOB.out);have c1:=hat1.c1;have c3:=hat2.c3;have c2:=hat3.c2;have y1:=(G10.rows.there HOB.out (j:=k * 5+1) (show k * 5+1 < (zh now d.F).zs.length * 5 by omega)).2;have y3:=(R1.there HOB.out (j:=k * 5+3) (by rw [List.length_set]; show k * 5+3 < (zh now d.F).zs.length * 5; omega)).2;have y2:=(R2.there HOB.out (j:=k * 5+2) (by rw [List.length_set]; show k * 5+2 < (zh now d.F).zs.length * 5; omega)).2;have fs:Fr (fun i=>(d.v).ownBlock=some i) w10 (((w10.setCell ⟨g3,k * 5+1,none⟩ (.slice oa10 tl.length cap10)).setCell ⟨g3,k * 5+3,none⟩ (.bool true)).setCell ⟨g3,k * 5+2,none⟩ (.int .i64 (now+d.F.se))):=(((Fr.refl (fun i=>(d.v).ownBlock=some i) w10).setCell (p:=⟨g3,k * 5+1,none⟩) (.inl HOB.out) _).setCell (p:=⟨g3,k * 5+3,none⟩) (.inl HOB.out) _).setCell (p:=⟨g3,k * 5+2,none⟩) (.inl HOB.out) _;have hset:=zCx (t:=fun z=> { z with m:= { z.m with tl:=tl,jo:=true,un:=now+(zh now d.F).se },ta:=oa10,tn:=tl.length,tc:=cap10 }) MID8.out.rise HZ.out HM.out;have g11:zu (((w10.setCell ⟨g3,k * 5+1,none⟩ (.slice oa10 tl.length cap10)).setCell ⟨g3,k * 5+3,none⟩ (.bool true)).setCell ⟨g3,k * 5+2,none⟩ (.int .i64 (now+d.F.se))) ⟨d.gb,xW (m) now tl oa10 cap10 (zh now d.F),d.v,fun i=>d.K i∨(w9.heap.size≤i∧i < w10.heap.size)⟩:=by
   have glt:=zA G9.out.b;have mo:∀z,ua d.K w10 z→ua (fun i=>d.K i∨(w9.heap.size≤i∧i < w10.heap.size)) (((w10.setCell ⟨g3,k * 5+1,none⟩ (.slice oa10 tl.length cap10)).setCell ⟨g3,k * 5+3,none⟩ (.bool true)).setCell ⟨g3,k * 5+2,none⟩ (.int .i64 (now+d.F.se))) z:=fun z h=>by
    have h9:=h.fr fs fun i hi e=>G10.x3 i e hi
    exact ⟨h9.1.mono fun b h _=>.inl h,h9.2.mono fun b h _=>.inl h⟩
   refine ⟨(fs.block _ (zA G10.b) G10.x1).trans G10.b,?_,fun y hy=>?_,G.out.pos,G10.x1,fun h=>h.elim G.out.x2 fun h=>?_,fun i e h=>h.elim (fun h=>G10.x3 i e h) fun h=>?_,fun i h=>h.elim (fun h=>⟨(G10.lt i h).1,Nat.lt_of_lt_of_le (G10.lt i h).2 fs.size⟩) fun h=>⟨?_,Nat.lt_of_lt_of_le h.2 fs.size⟩⟩
   ·show zo _ _ (onZ _ _ _)
    first | rw [←hset,SE8.out] | rw [←hset]
    exact R3
   ·rcases vM hy with h1 | ⟨x,h1,-,rfl⟩
    ·exact mo y (G10.ok y h1)
    ·have h9:=mo x (G10.ok x h1)
     exact ⟨(T10.out.fr fs fun i hi e=>by have h8:=(zK G9.out.rows e).2; have h7:w9.heap.size≤i:=hi.1; omega).mono fun b h _=>.inr h,h9.2⟩
   ·have h7:w9.heap.size≤d.gb:=h.1
    have h8:d.gb < w9.heap.size:=glt;omega
   ·have h8:=(zK G9.out.rows e).2
    have h7:w9.heap.size≤i:=h.1;omega
   ·have h7:w9.heap.size≤i:=h.1
    omega
  have CM:=zz (jN g11 (by show (onZ _ _ _).length≤1000; rw [uD]; have:=MID8.out.len; omega));have F11:=zz ((F9.out.trans D10.out fun _ h=>h.elim).trans fs fun i e=>(OW8.out i e).elim (fun h=>.inl (.inr h)) fun h=>.inr h);have G11:=zz g11;have KC:=zz (show ∀i,(d.K i∨(w9.heap.size≤i∧i < w10.heap.size))→d.K i∨w.heap.size≤i from fun i h=>h.imp id fun h=>Nat.le_trans F9.out.size h.1);clear R1 R2 R3 hy1 hy2 hob1 hob2 hob3 hat1 hat2 hat3 fs G10 g11 hset;refine Lcl.wpG_run [11,12,13,14,15,16,17,18,19] _ _ _ (by kernel_rfl) ?_;simp only [List.map_cons,List.map_nil,List.getElem?_toArray,List.getElem?_cons_succ,List.getElem?_cons_zero,Option.getD_some];go_wp2_with fail
  generalize (((w10.setCell ⟨g3,k * 5+1,none⟩ (.slice oa10 tl.length cap10)).setCell ⟨g3,k * 5+3,none⟩ (.bool true)).setCell ⟨g3,k * 5+2,none⟩ (.int .i64 (now+d.F.se)))=w11 at *;clear c1 c2 c3 y1 y2 y3;refine CM.out.mono ?_;rintro e w12 ⟨rfl,f12⟩;have G12:=zz (G11.out.old f12);have F12:=zz (F11.out.trans f12 fun _ h=>h.elim);clear f12 CM;obtain ⟨cb,hcb⟩:∃cb,cb=(xW (m) now tl oa10 cap10 (zh now d.F)).zs.any fun z=>!z.m.jo:=⟨_,rfl⟩
  dsimp only;rw [←hcb];have HCB:=zz hcb;clear hcb;cases cb with
  | true=>
   go_wp2_with fail
   go_ret2
   refine .inr (.inr ⟨OK.out,JE.out,oa10,cap10,_,_,by rw [if_neg HM9.out]; rfl,?_,KC.out,OW8.out,F12.out⟩);rw [if_neg HM9.out,if_neg HM9.out,xA,if_neg HP.out,jy,if_pos HCB.out.symm];exact G12.out
  | false=>
   have CL:=zz (uy G12.out now (by show (onZ _ _ _).length≤1000; rw [uD]; have:=MID8.out.len; omega) ⟨ht1,ht2⟩ (by have:=RE8.out; show 0≤(zh now d.F).re∧(zh now d.F).re≤100000; omega) (by have:=GE8.out; show 0≤(zh now d.F).ge∧(zh now d.F).ge≤1099511627776; omega));dsimp only at CL;go_wp2_with fail
   refine CL.out.mono ?_;rintro e w13 ⟨rfl,v13,ho13,g13,f13⟩;have H13:=zz (And.intro ho13 (And.intro g13 f13));clear ho13 g13 f13 CL;go_wp2_with fail
   go_ret2
   refine .inr (.inr ⟨OK.out,JE.out,oa10,cap10,v13,_,by rw [if_neg HM9.out]; rfl,?_,KC.out,fun i e=>OW8.out i (by rw [←H13.out.1]; exact e),F12.out.trans H13.out.2.2 fun i h=>h.elim (fun h=>.inl (.inl h)) fun h=>(OW8.out i h).elim (fun h=>.inl (.inr h)) fun h=>.inr h⟩);rw [if_neg HM9.out,if_neg HM9.out,xA,if_neg HP.out,jy,if_neg (by rw [←HCB.out]; simp)];exact H13.out.2.1
end
end Go.Proofs.YtfdhofabgdkkkaaGreatDoor

/- A part of the proof that what the machine is told keeps its bounds. -/
import Derived.Test.YtfdhofabgdkkkaaGreatDoorJ32
set_option maxHeartbeats 128000000
set_option maxRecDepth 100000
namespace Go.Proofs.YtfdhofabgdkkkaaGreatDoor
open Lib renaming hid→zz
open Go.RowKit Go.Fm Go.BigFrame Go.Shelf Go.Maps
set_option linter.unusedVariables false
set_option linter.unusedSimpArgs false
section
variable {w w':World} {S K:Nat→Prop}
theorem zXs {d:zj} (h:zu w d) (hl:d.F.zs.length≤1000) (htl:∀z∈d.F.zs,z.m.tl.length≤1000) (tops:List (ByteArray × Int)) (tv:Value) (ht:jq w tv tops) (h2:tops.length≤1000) (htz:∀t∈tops,t.1.size≤150000000000000) (rnd:Bool):
  Calls Tryz.prog 211 #[.pointer (some ⟨d.gb,0,none⟩),tv,.bool rnd] w (zEd d rnd tops w):=by
 cases rnd
 ·exact zOp h hl htl tops tv ht h2 htz
 ·exact zRq h hl htl tops tv ht h2 htz
def vO (zs:List zN):Int:=match zs with | []=>-1 | z::_=>z.m.id
def jY (now:Int):Prop:=0≤now∧now≤1099511627776
def zHl (f:zf) (m gen now:Int) (rnd:Bool) (tops:List (ByteArray × Int)) (er:Int) (f':zf) (pl:List (ByteArray × Int)):Prop:=
 (¬jY now∧er=1∧f'=f∧pl=[])
 ∨(jY now∧xj m gen f≠0∧er=xj m gen f∧f'=f∧pl=[])
 ∨(jY now∧xj m gen f=0∧f.ph=1∧er=13∧f'=f∧pl=[])
 ∨(jY now∧xj m gen f=0∧f.ph=2∧vO f.zs≠m∧er=13∧f'=yT m now f∧pl=[])
 ∨(jY now∧xj m gen f=0∧f.ph=2∧vO f.zs=m∧¬zOf ((yT m now f).zs.map xu) tops∧er=1∧f'=yT m now f∧pl=[])
 ∨(jY now∧xj m gen f=0∧f.ph=2∧vO f.zs=m∧zOf ((yT m now f).zs.map xu) tops∧er=0∧∃zs',zLu (zTz rnd ((yT m now f).zs.map xu) tops) (yT m now f).zs zs'∧(∀z∈zs',z.m.pl.length≤1000)∧f'=ji 3 0 { yT m now f with zs:=zs' } ∧∃z∈zs',z.m.id=m∧pl=z.m.pl)
 ∨(jY now∧xj m gen f=0∧f.ph≠1∧f.ph≠2∧er=0∧f'=yT m now f∧∃z∈f.zs,z.m.id=m∧pl=z.m.pl)
def zOq (d:zj) (m gen now:Int) (rnd:Bool) (tops:List (ByteArray × Int)) (w:World) (e:Ending) (w':World):Prop:=
 ∃(rv:Value) (er:Int) (F':zf) (K':Nat→Prop) (pl:List (ByteArray × Int)),e=.returned (.tuple #[rv,.int .i64 er])∧xL (fun b=>w.heap.size≤b) w' rv pl∧zu w' ⟨d.gb,F',d.v,K'⟩∧(∀i,K' i→d.K i∨w.heap.size≤i)∧Fr d.W w w'∧zHl d.F m gen now rnd tops er F' pl
theorem zUa {m:Int} {t:zN→zN} {zs:List zN} {k:Nat} {z:zN} (hz:zs[k]?=some z):(onZ m t zs)[k]?=some (if z.m.id=m then t z else z):=by
 unfold onZ;rw [List.getElem?_map,hz];rfl
theorem zXt {d:zj} (h:zu w d) {N:Nat} (hi:yL d.F N) (hN:N≤1000000) (hq:∀z∈d.F.zs,z.m.tl.length≤1000∧z.m.pl.length≤1000) (m gen now:Int) (hm:-1≤m∧m≤2199023255552) (tops:List (ByteArray × Int)) (tv:Value) (ht:∀w',Fr d.W w w'→jq w' tv tops) (h2:tops.length≤1000) (htz:∀t∈tops,t.1.size≤150000000000000) (rnd:Bool):
  Calls Tryz.prog 142 #[.pointer (some ⟨d.gb,0,none⟩),.int .i64 m,.int .i64 gen,tv,.bool rnd,.int .i64 now] w (zOq d m gen now rnd tops w):=by
 have G:=zz h;have IT:=zz (jW (w:=w) now);have KW:=zz (zBu h hi hN m gen hm);have RS:=zz hi.rise;have HQ:=zz hq;have HLN:=zz hi.len;have HT:=zz ht;have HTZ:=zz htz;have hse:=hi.se;obtain ⟨ob2,cap2,rfl,-⟩:=ht w (Fr.refl _ _);obtain ⟨oa,cap,hv⟩:=id h.rows.slice;have HV:=zz hv;clear h ht hq htz hv;have bad:∀(er:Int) (F':zf) (e:Ending) (w5:World),e=.returned (.tuple #[.slice none 0 0,.int .i64 er])→zu w5 ⟨d.gb,F',d.v,d.K⟩→Fr d.W w w5→zHl d.F m gen now rnd tops er F' []→zOq d m gen now rnd tops w e w5:=fun er F' e w5 he hg hf hr=>⟨_,er,F',d.K,[],he,xL.nil,hg,fun i h=>.inl h,hf,hr⟩
 have BAD:=zz bad;clear bad;by_cases hn:0≤now∧now≤1099511627776
 ·rw [decide_eq_true hn] at IT
  have hn1:=hn.1;have hn2:=hn.2;have HN:=zz (show jY now from hn);clear hn;go_enter Tryz.func142,Tryz.ntmps142
  go_wp2_with fail
  refine IT.out.mono ?_;rintro e w1 ⟨rfl,hw⟩;obtain rfl:=hw.symm;clear IT;go_wp2_with fail
  refine KW.out.mono ?_;rintro e w2 ⟨hcase,f2⟩;have F2:=zz f2;have FW2:=zz (F2.out.mono (S':=d.W) fun _ h=>h.elim);have G2:=zz (G.out.old f2);have dx:=fun j=>zB (G.out.old f2).b j
  rw [HV.out] at dx;clear f2 KW;rcases hcase with ⟨b,k,z,hob,hz,hzm,hg,rfl⟩ | ⟨hno,rfl⟩ | ⟨⟨z,hz,hzm⟩,hg,rfl⟩
  ·have KF:=zz (show xj m gen d.F=0 by rw [jX (List.mem_of_getElem? hz) hzm,if_pos hg])
   have HOB:=zz hob;have HZ:=zz hz;have HM:=zz hzm;by_cases hp:d.F.ph=1
   ·have hp1:(d.F.ph == 1)=true:=by rw [hp]; rfl
    have HP:=zz hp;clear hp hob hz hzm hg;go_wp2_with fail
    go_ret2
    exact BAD.out 13 d.F _ _ rfl G2.out FW2.out (.inr (.inr (.inl ⟨HN.out,KF.out,HP.out,rfl,rfl,rfl⟩)))
   ·have hp1:(d.F.ph == 1)=false:=by rw [beq_eq_false_iff_ne]; exact hp
    have HP:=zz hp;obtain ⟨g3,f3,c3,z3⟩:=G2.out.touch RS.out hob hz hzm now;have G3:=zz g3;have F3:=zz (FW2.out.trans f3 fun i e=>.inl (.inr e));have dy:=fun j=>zB g3.b j
    dsimp only at dy;rw [HV.out] at dy;have HZ3:=zz ((zUa (m:=m) (t:=fun z=> { z with m:= { z.m with un:=now+d.F.se } }) hz).trans (by rw [if_pos hzm]));clear hp hob hz hzm hg g3 f3;by_cases hp2:d.F.ph=2
    ·have hp3:((yT m now d.F).ph == 2)=true:=by show (d.F.ph == 2)=true; rw [hp2]; rfl
     have hp4:(d.F.ph == 2)=true:=by rw [hp2]; rfl
     have HP2:=zz hp2;clear hp2;have hlz:0 < d.F.zs.length:=by have:=(List.getElem?_eq_some_iff.1 HZ.out).1; omega
     obtain ⟨z0,hz0⟩:=zH hlz;have hfi:vO d.F.zs=z0.m.id:=by
      cases hzs:d.F.zs with
      | nil=>rw [hzs] at hz0; simp at hz0
      | cons y l=>rw [hzs] at hz0; simp at hz0; rw [hz0]; rfl
     have hz1:=zUa (m:=m) (t:=fun z=> { z with m:= { z.m with un:=now+d.F.se } }) hz0;obtain ⟨b',cap',hsl,hob',hat⟩:=G3.out.rows.at hz1;obtain rfl:b'=b:=Option.some.inj (hob'.symm.trans HOB.out);dsimp only at hsl;rw [HV.out] at hsl;injection hsl with e1 e2 e3
     subst e1;have ci:=hat.c0;rw [Nat.zero_mul,show (if z0.m.id=m then { z0 with m:= { z0.m with un:=now+d.F.se } } else z0).m.id=z0.m.id by split <;> rfl] at ci;have FI:=zz hfi;clear hz0 hz1 hob' hat hfi e2 e3;by_cases h0:m=z0.m.id
     ·have h01:(m != z0.m.id)=false:=by rw [h0]; simp
      have H0:=zz (FI.out.trans h0.symm);have SH:=zz (zXs (w:=w2.setCell ⟨b',k * 5+2,none⟩ (.int .i64 (now+d.F.se))) G3.out (by show (yT m now d.F).zs.length≤1000; unfold yT; rw [uD]; have:=HLN.out; omega) (fun y hy=>by
        rcases vM hy with h1 | ⟨x,h1,-,rfl⟩
        ·exact (HQ.out y h1).1
        ·exact (HQ.out x h1).1) tops (.slice ob2 tops.length cap2) (HT.out _ F3.out) h2 HTZ.out rnd)
      dsimp only at SH;clear h0;go_wp2_with fail
      refine SH.out.mono ?_;rintro e w5 hcase;rcases hcase with ⟨hp,rfl,f5⟩ | ⟨hp,rfl,zs',K',hsr,hpl,g5,hK,f5⟩
      ·have G5:=zz (G3.out.old f5)
       have F5:=zz (F3.out.trans f5 fun i e=>e.elim);have HCP:=zz hp;clear hp f5 SH;go_wp2_with fail
       go_ret2
       exact BAD.out 1 _ _ _ rfl G5.out F5.out (.inr (.inr (.inr (.inr (.inl ⟨HN.out,KF.out,HP2.out,H0.out,HCP.out,rfl,rfl,rfl⟩)))))
      ·have F5:=zz (F3.out.trans f5 fun i e=>.inl e)
       obtain ⟨z',pl',hz',hpl',hm',-⟩:=hsr.2 k _ HZ3.out;obtain ⟨b9,cap9,hsl9,hob9,hat9⟩:=g5.rows.at (show (ji 3 0 { yT m now d.F with zs:=zs' }).zs[k]?=some z' from hz');obtain rfl:b9=b':=Option.some.inj (hob9.symm.trans HOB.out);have c4:=hat9.c4;have hpr:=(g5.ok z' (List.mem_of_getElem? hz')).2;have hpll:∀y∈zs',y.m.pl.length≤1000:=fun y hy=>(hpl y hy).elim id fun h=>by
        rcases vM h with h1 | ⟨x,h1,-,rfl⟩
        ·exact (HQ.out y h1).2
        ·exact (HQ.out x h1).2
       have PC:=zz (zAc z'.m.pl (.slice z'.pa z'.pn z'.pc) w5 hpr (hpll z' (List.mem_of_getElem? hz')));have G5:=zz g5;have HK:=zz (show ∀i,K' i→d.K i∨w.heap.size≤i from fun i h=>(hK i h).imp id fun h=>Nat.le_trans (Nat.le_trans F2.out.size (by simp [World.setCell])) h);have SR:=zz (show zHl d.F m gen now rnd tops 0 (ji 3 0 { yT m now d.F with zs:=zs' }) z'.m.pl from .inr (.inr (.inr (.inr (.inr (.inl ⟨HN.out,KF.out,HP2.out,H0.out,hp,rfl,zs',hsr,hpll,rfl,z',List.mem_of_getElem? hz',by rw [hm']; exact HM.out,rfl⟩))))));clear hp f5 SH hsr hpl g5 hK hz' hpl' hm' hsl9 hob9 hat9 hpr hpll;go_wp2_with fail
       refine PC.out.mono ?_;rintro e w6 ⟨rv,rfl,hr6,f6⟩;have G6:=zz (G5.out.old f6);have F6:=zz (F5.out.trans f6 fun i e=>e.elim);have R6:=zz (hr6.mono (K':=fun b=>w.heap.size≤b) fun b hb _=>Nat.le_trans F5.out.size hb);clear hr6 f6 PC;go_wp2_with fail
       go_ret2
       exact ⟨_,0,_,K',_,rfl,R6.out,G6.out,HK.out,F6.out,SR.out⟩
     ·have h01:(m != z0.m.id)=true:=by rw [bne_iff_ne]; exact h0
      have H0:=zz (show vO d.F.zs≠m from fun e=>h0 (e.symm.trans FI.out));clear h0;go_wp2_with fail
      go_ret2
      exact BAD.out 13 _ _ _ rfl G3.out F3.out (.inr (.inr (.inr (.inl ⟨HN.out,KF.out,HP2.out,H0.out,rfl,rfl,rfl⟩))))
    ·have hp4:(d.F.ph == 2)=false:=by rw [beq_eq_false_iff_ne]; exact hp2
     have hp3:((yT m now d.F).ph == 2)=false:=hp4;have HP2:=zz hp2;clear hp2;obtain ⟨b9,cap9,hsl9,hob9,hat9⟩:=G3.out.rows.at HZ3.out;obtain rfl:b9=b:=Option.some.inj (hob9.symm.trans HOB.out);have c4:=hat9.c4;dsimp only at c4;have PC:=zz (zAc z.m.pl (.slice z.pa z.pn z.pc) (w2.setCell ⟨b9,k * 5+2,none⟩ (.int .i64 (now+d.F.se))) (G3.out.ok _ (List.mem_of_getElem? HZ3.out)).2 (HQ.out z (List.mem_of_getElem? HZ.out)).2);have SR:=zz (show zHl d.F m gen now rnd tops 0 (yT m now d.F) z.m.pl from .inr (.inr (.inr (.inr (.inr (.inr ⟨HN.out,KF.out,HP.out,HP2.out,rfl,rfl,z,List.mem_of_getElem? HZ.out,HM.out,rfl⟩))))));clear hsl9 hob9 hat9;go_wp2_with fail
     refine PC.out.mono ?_;rintro e w6 ⟨rv,rfl,hr6,f6⟩;have G6:=zz (G3.out.old f6);have F6:=zz (F3.out.trans f6 fun i e=>e.elim);have R6:=zz (hr6.mono (K':=fun b=>w.heap.size≤b) fun b hb _=>Nat.le_trans F3.out.size hb);clear hr6 f6 PC;go_wp2_with fail
     go_ret2
     exact ⟨_,0,_,d.K,_,rfl,R6.out,G6.out,fun i h=>.inl h,F6.out,SR.out⟩
  ·have KF:=zz (zAb (gen:=gen) hno)
   clear hno;go_wp2_with fail
   go_ret2
   exact BAD.out 11 d.F _ _ rfl G2.out FW2.out (.inr (.inl ⟨HN.out,by rw [KF.out]; simp,KF.out.symm,rfl,rfl⟩))
  ·have KF:=zz (show xj m gen d.F=10 by rw [jX hz hzm,if_neg hg])
   clear hz hzm hg;go_wp2_with fail
   go_ret2
   exact BAD.out 10 d.F _ _ rfl G2.out FW2.out (.inr (.inl ⟨HN.out,by rw [KF.out]; simp,KF.out.symm,rfl,rfl⟩))
 ·rw [decide_eq_false hn] at IT
  have HN:=zz (show ¬jY now from hn);clear hn;go_enter Tryz.func142,Tryz.ntmps142
  go_wp2_with fail
  refine IT.out.mono ?_;rintro e w1 ⟨rfl,hw⟩;obtain rfl:=hw.symm;clear IT;go_wp2_with fail
  go_ret2
  exact BAD.out 1 d.F _ _ rfl G.out (Fr.refl _ _) (.inl ⟨HN.out,rfl,rfl,rfl⟩)
end
section
variable {w w':World} {S K:Nat→Prop}
structure GIw (f:zf) (N:Nat):Prop where
 se:1≤f.se∧f.se≤100000
 re:1≤f.re∧f.re≤100000
 ph:0≤f.ph∧f.ph≤3
 ge:0≤f.ge∧f.ge≤N
 nx:0≤f.nx∧f.nx≤N
 un:0≤f.un∧f.un≤1099511727776
 len:f.zs.length≤20
 rise:uw f.zs
 ids:∀z∈f.zs,0≤z.m.id∧z.m.id < f.nx
theorem yL.wk {f:zf} {N:Nat} (h:yL f N):GIw f N:=⟨h.se,h.re,h.ph,h.ge,h.nx,h.un,h.len,h.rise,h.ids⟩
theorem GIw.inv {f:zf} {N:Nat} (h:GIw f N) (hs:f.ph=2→f.zs≠[]):yL f N:=⟨h.se,h.re,h.ph,h.ge,h.nx,h.un,h.len,h.rise,h.ids,hs⟩
theorem yL.mono {f:zf} {N M:Nat} (h:yL f N) (hN:N≤M):yL f M:=⟨h.se,h.re,h.ph,⟨h.ge.1,by have:=h.ge.2; omega⟩,⟨h.nx.1,by have:=h.nx.2; omega⟩,h.un,h.len,h.rise,h.ids,h.some'⟩
theorem GIw.mono {f:zf} {N M:Nat} (h:GIw f N) (hN:N≤M):GIw f M:=⟨h.se,h.re,h.ph,⟨h.ge.1,by have:=h.ge.2; omega⟩,⟨h.nx.1,by have:=h.nx.2; omega⟩,h.un,h.len,h.rise,h.ids⟩
theorem GIw.zs {f:zf} {N:Nat} (h:GIw f N) (l:List zN) (h1:l.length≤20) (h2:uw l) (h3:∀z∈l,0≤z.m.id∧z.m.id < f.nx):GIw { f with zs:=l } N:=⟨h.se,h.re,h.ph,h.ge,h.nx,h.un,h1,h2,h3⟩
theorem GIw.enter {f:zf} {N:Nat} (h:GIw f N) (p u:Int) (hp:0≤p∧p≤3) (hu:0≤u∧u≤1099511727776):GIw (ji p u f) N:=⟨h.se,h.re,hp,h.ge,h.nx,hu,h.len,h.rise,h.ids⟩
theorem zAx {zs:List zN} :uw zs↔zs.Pairwise fun x y=>x.m.id < y.m.id:=by
 constructor
 ·intro h
  rw [List.pairwise_iff_getElem];intro i j hi hj hij;exact h i j _ _ (List.getElem?_eq_getElem hi) (List.getElem?_eq_getElem hj) hij
 ·intro h i j z z' hz hz' hij
  obtain ⟨hi,rfl⟩:=List.getElem?_eq_some_iff.1 hz;obtain ⟨hj,rfl⟩:=List.getElem?_eq_some_iff.1 hz';exact List.pairwise_iff_getElem.1 h i j hi hj hij
theorem zOr {zs:List zN} (h:uw zs) (p:zN→Bool):uw (zs.filter p):=zAx.2 ((zAx.1 h).sublist List.filter_sublist)
theorem GIw.filter {f:zf} {N:Nat} (h:GIw f N) (p:zN→Bool):GIw { f with zs:=f.zs.filter p } N:=
 h.zs _ (Nat.le_trans (List.length_filter_le _ _) h.len) (zOr h.rise p) fun z hz=>h.ids z (List.mem_filter.1 hz).1
theorem GIw.map {f:zf} {N:Nat} (h:GIw f N) (t:zN→zN) (ht:∀z,(t z).m.id=z.m.id):GIw { f with zs:=f.zs.map t } N:=
 h.zs _ (by rw [List.length_map]; exact h.len) (zOl ht h.rise) fun z hz=>by
  obtain ⟨y,hy,rfl⟩:=List.mem_map.1 hz;rw [ht];exact h.ids y hy
theorem GIw.anew {f:zf} {N:Nat} {now:Int} (h:GIw f N) (hn:jY now):yL (zh now f) N:=by
 have hr:=h.re;have h1:=hn.1;have h2:=hn.2;unfold zh;split
 ·exact (h.enter 0 0 (by omega) (by omega)).inv fun e=>by cases e
 ·exact ((h.map zBi fun _=>rfl).enter 1 (now+f.re) (by omega) (by omega)).inv fun e=>by cases e
theorem GIw.close {f:zf} {N:Nat} {now:Int} (h:GIw f N) (hn:jY now):yL (uX now f) (N+1):=by
 have hr:=h.re;have h1:=hn.1;have h2:=hn.2;have hj:GIw { f with zs:=ub f.zs } N:=h.filter _;unfold uX;split
 ·exact ((hj.enter 0 0 (by omega) (by omega)).mono (Nat.le_succ N)).inv fun e=>by cases e
 ·rename_i hne
  have hg:=h.ge;have hx:=h.nx;exact (⟨h.se,h.re,by show 0≤(2:Int)∧(2:Int)≤3; omega,by show 0≤f.ge+1∧f.ge+1≤((N+1:Nat):Int); omega,by show 0≤f.nx∧f.nx≤((N+1:Nat):Int); omega,by show 0≤now+f.re∧now+f.re≤1099511727776; omega,hj.len,hj.rise,hj.ids⟩:GIw (ji 2 (now+f.re) { f with zs:=ub f.zs,ge:=f.ge+1 }) (N+1)).inv fun _=>hne
theorem zXu {p:zN→Bool} {zs:List zN} (h:(yW p zs).length=zs.length):yW p zs=zs:=by
 unfold yW at h ⊢;exact List.filter_eq_self.2 (List.length_filter_eq_length_iff.1 h)
theorem yL.drop {f:zf} {N:Nat} {now:Int} (h:yL f N) (hn:jY now) (p:zN→Bool):yL (uz now p f) (N+1):=by
 have hk:GIw { f with zs:=yW p f.zs } N:=h.wk.filter _;unfold uz;split
 ·rename_i he
  rw [zXu he];exact h.mono (Nat.le_succ N)
 ·split
  ·exact (hk.anew hn).mono (Nat.le_succ N)
  ·rename_i hb
   split
   ·exact (hk.mono (Nat.le_succ N)).inv fun e=>by
     have:f.ph=2:=e
     exact absurd (.inl (by omega)) hb
   ·exact hk.close hn
theorem onZ_rise {m:Int} {t:zN→zN} (ht:∀z,(t z).m.id=z.m.id) (z:zN):((fun z:zN=>if z.m.id=m then t z else z) z).m.id=z.m.id:=by
 dsimp only;split
 ·exact ht z
 ·rfl
theorem GIw.on {f:zf} {N:Nat} (h:GIw f N) (m:Int) (t:zN→zN) (ht:∀z,(t z).m.id=z.m.id):GIw { f with zs:=onZ m t f.zs } N:=h.map _ (onZ_rise ht)
theorem onZ_nil {m:Int} {t:zN→zN} {zs:List zN} (h:zs≠[]):onZ m t zs≠[]:=fun e=>h (List.eq_nil_of_length_eq_zero (by rw [←uD m t zs,e]; rfl))
theorem yL.touch {f:zf} {N:Nat} (h:yL f N) (m now:Int):yL (yT m now f) N:=(h.wk.on m (fun z=> { z with m:= { z.m with un:=now+f.se } }) fun _=>rfl).inv fun e=>onZ_nil (h.some' e)
theorem GIw.grow {f:zf} {N:Nat} (h:GIw f N) (hl:f.zs.length < 20):GIw (zg f) (N+1):=by
 have hx:=h.nx;have hg:=h.ge;refine ⟨h.se,h.re,h.ph,by show 0≤f.ge∧f.ge≤((N+1:Nat):Int); omega,by show 0≤f.nx+1∧f.nx+1≤((N+1:Nat):Int); omega,h.un,by show (f.zs++ [zOj f.nx]).length≤20; simp; omega,zKd h.rise fun y hy=>(h.ids y hy).2,fun z hz=>?_⟩
 show 0≤z.m.id∧z.m.id < f.nx+1
 rcases List.mem_append.1 hz with hz | hz
 ·have:=h.ids z hz
  omega
 ·rw [List.mem_singleton] at hz
  subst hz
  show 0≤f.nx∧f.nx < f.nx+1
  omega
theorem zHm {f:zf} {N:Nat} {now m:Int} (h:GIw f N) (hn:jY now) (hz:∃z∈f.zs,z.m.id=m) (tl:List ByteArray) (ta:Option Addr) (tc:Nat):yL (jy now (xW m now tl ta tc (xA now f))) (N+1):=by
 obtain ⟨z,hz,hm⟩:=hz;have hb:GIw (xA now f) N∧(xA now f).ph=1:=by
  unfold xA;split
  ·rename_i e
   exact ⟨h,e⟩
  ·refine ⟨(h.anew hn).wk,?_⟩
   rw [zh,if_neg (fun e=>by rw [e] at hz; cases hz)];rfl
 have ht:GIw (xW m now tl ta tc (xA now f)) N:=hb.1.on m _ fun _=>rfl
 have hp:(xW m now tl ta tc (xA now f)).ph=1:=hb.2;unfold jy;split
 ·exact (ht.mono (Nat.le_succ N)).inv fun e=>by rw [hp] at e; cases e
 ·exact ht.close hn
theorem yL.join {f:zf} {N:Nat} {now m:Int} (h:yL f N) (hn:jY now) (he:yX m f=0) (tl:List ByteArray) (ta:Option Addr) (tc:Nat):yL (jy now (xW (if m= -1 then f.nx else m) now tl ta tc (xA now (if m= -1 then zg f else f)))) (N+2):=by
 unfold yX at he;by_cases hm:m= -1
 ·rw [if_pos hm] at he
  rw [if_pos hm,if_pos hm];have hl:f.zs.length < 20:=Nat.lt_of_not_le fun h=>by rw [if_pos h] at he; cases he
  exact zHm (h.wk.grow hl) hn ⟨zOj f.nx,List.mem_append_right _ (List.mem_singleton.2 rfl),rfl⟩ tl ta tc
 ·rw [if_neg hm] at he
  rw [if_neg hm,if_neg hm];have ha:(f.zs.any fun z=>z.m.id == m)=true:=by
   cases hh:f.zs.any fun z=>z.m.id == m with
   | true=>rfl
   | false=>rw [if_pos hh] at he; cases he
  obtain ⟨z,hz,hzm⟩:=List.any_eq_true.1 ha;exact (zHm h.wk hn ⟨z,hz,by simpa using hzm⟩ tl ta tc).mono (by omega)
def GQ (f:zf):Prop:=∀z∈f.zs,z.m.tl.length≤1000∧z.m.pl.length≤1000
theorem GQ.sub {f:zf} (h:GQ f) {l:List zN} (hl:∀z∈l,z∈f.zs):GQ { f with zs:=l } :=fun z hz=>h z (hl z hz)
theorem GQ.anew {f:zf} (h:GQ f) (now:Int):GQ (zh now f):=by
 unfold zh;split
 ·exact h
 ·intro z hz
  obtain ⟨y,hy,rfl⟩:=List.mem_map.1 hz;exact ⟨(h y hy).1,Nat.zero_le _⟩
theorem GQ.close {f:zf} (h:GQ f) (now:Int):GQ (uX now f):=by
 unfold uX;split <;> exact fun z hz=>h z (List.mem_filter.1 hz).1
theorem GQ.drop {f:zf} (h:GQ f) (now:Int) (p:zN→Bool):GQ (uz now p f):=by
 have hk:GQ { f with zs:=yW p f.zs } :=h.sub fun z hz=>(List.mem_filter.1 hz).1
 unfold uz;split
 ·exact hk
 ·split
  ·exact hk.anew now
  ·split
   ·exact hk
   ·exact hk.close now
theorem GQ.on {f:zf} (h:GQ f) (m:Int) (t:zN→zN) (ht:∀z,z.m.tl.length≤1000∧z.m.pl.length≤1000→(t z).m.tl.length≤1000∧(t z).m.pl.length≤1000):GQ { f with zs:=onZ m t f.zs } :=fun z hz=>by
 rcases vM hz with h1 | ⟨y,hy,-,rfl⟩
 ·exact h z h1
 ·exact ht y (h y hy)
theorem GQ.touch {f:zf} (h:GQ f) (m now:Int):GQ (yT m now f):=h.on m _ fun _ h=>h
theorem GQ.beg {f:zf} (h:GQ f) (now:Int):GQ (xA now f):=by
 unfold xA;split
 ·exact h
 ·exact h.anew now
theorem GQ.fin {f:zf} (h:GQ f) (now:Int):GQ (jy now f):=by
 unfold jy;split
 ·exact h
 ·exact h.close now
theorem GQ.join {f:zf} (h:GQ f) (m now:Int) (tl:List ByteArray) (ta:Option Addr) (tc:Nat) (htl:tl.length≤20):GQ (jy now (xW (if m= -1 then f.nx else m) now tl ta tc (xA now (if m= -1 then zg f else f)))):=by
 have hg:GQ (if m= -1 then zg f else f):=by
  split
  ·intro z hz
   rcases List.mem_append.1 hz with hz | hz
   ·exact h z hz
   ·rw [List.mem_singleton] at hz
    subst hz;exact ⟨Nat.zero_le _,Nat.zero_le _⟩
  ·exact h
 have hb:=hg.beg now;have ht:GQ (xW (if m= -1 then f.nx else m) now tl ta tc (xA now (if m= -1 then zg f else f))):=hb.on _ _ fun z hz=>⟨by show tl.length≤1000; omega,hz.2⟩
 exact ht.fin now
theorem zRr {D:yC} {zs zs':List zN} (h:zLu D zs zs'):zs'.map (·.m.id)=zs.map (·.m.id):=by
 apply List.ext_getElem?
 intro i;rw [List.getElem?_map,List.getElem?_map];cases hz:zs[i]? with
 | none=>rw [List.getElem?_eq_none_iff.2 (by rw [h.1]; exact List.getElem?_eq_none_iff.1 hz)]
 | some z=>
  obtain ⟨z',pl,h1,-,h2,-⟩:=h.2 i z hz;rw [h1,Option.map_some,Option.map_some,h2]
theorem zEz {D:yC} {zs zs':List zN} (h:zLu D zs zs') {z':zN} (hz':z'∈zs'):∃z∈zs,z'.m.id=z.m.id∧z'.m.tl=z.m.tl:=by
 obtain ⟨i,hi⟩:=List.mem_iff_getElem?.1 hz';obtain ⟨z,hz⟩:=zH (l:=zs) (k:=i) (by have:=(List.getElem?_eq_some_iff.1 hi).1; have:=h.1; omega);obtain ⟨z1,pl,h1,-,h2,-⟩:=h.2 i z hz;obtain rfl:=Option.some.inj (h1.symm.trans hi);exact ⟨z,List.mem_of_getElem? hz,by rw [h2],by rw [h2]⟩
theorem sync_inv {f f':zf} {N:Nat} {m gen now er:Int} {rnd:Bool} {tops pl:List (ByteArray × Int)} (h:yL f N) (hq:GQ f) (hr:zHl f m gen now rnd tops er f' pl):yL f' N∧GQ f'∧pl.length≤1000∧f'.se=f.se∧f'.re=f.re:=by
 rcases hr with ⟨-,-,rfl,rfl⟩ | ⟨-,-,-,rfl,rfl⟩ | ⟨-,-,-,-,rfl,rfl⟩ | ⟨-,-,-,-,-,rfl,rfl⟩ | ⟨-,-,-,-,-,-,rfl,rfl⟩ | ⟨-,-,-,-,-,-,zs',hs,hl,rfl,z,hz,-,rfl⟩ | ⟨-,-,-,-,-,rfl,z,hz,-,rfl⟩
 ·exact ⟨h,hq,Nat.zero_le _,rfl,rfl⟩
 ·exact ⟨h,hq,Nat.zero_le _,rfl,rfl⟩
 ·exact ⟨h,hq,Nat.zero_le _,rfl,rfl⟩
 ·exact ⟨h.touch m now,hq.touch m now,Nat.zero_le _,rfl,rfl⟩
 ·exact ⟨h.touch m now,hq.touch m now,Nat.zero_le _,rfl,rfl⟩
 ·have ht:=(h.touch m now).wk
  have hq2:=hq.touch m now;refine ⟨((ht.zs zs' (by rw [hs.1]; exact ht.len) ?_ fun z hz=>?_).enter 3 0 (by omega) (by omega)).inv (fun e=>by cases e),fun z hz=>?_,hl z hz,rfl,rfl⟩
  ·rw [zAx,←List.pairwise_map (f:=fun z:zN=>z.m.id) (R:=fun a b=>a < b),zRr hs,List.pairwise_map]
   exact zAx.1 ht.rise
  ·obtain ⟨y,hy,e,-⟩:=zEz hs hz
   rw [e];exact ht.ids y hy
  ·obtain ⟨y,hy,-,e⟩:=zEz hs hz
   exact ⟨by rw [e]; exact (hq2 y hy).1,hl z hz⟩
 ·exact ⟨h.touch m now,hq.touch m now,(hq z hz).2,rfl,rfl⟩
theorem zOs (now:Int) (p:zN→Bool) (f:zf):(uz now p f).se=f.se∧(uz now p f).re=f.re:=by
 unfold uz zh uX
 repeat' split
 all_goals exact ⟨rfl,rfl⟩
theorem zDb (m now:Int) (tl:List ByteArray) (ta:Option Addr) (tc:Nat) (f:zf):(jy now (xW (if m= -1 then f.nx else m) now tl ta tc (xA now (if m= -1 then zg f else f)))).se=f.se∧(jy now (xW (if m= -1 then f.nx else m) now tl ta tc (xA now (if m= -1 then zg f else f)))).re=f.re:=by
 have h1:∀g:zf,(jy now g).se=g.se∧(jy now g).re=g.re:=fun g=>by
  unfold jy uX
  repeat' split
  all_goals exact ⟨rfl,rfl⟩
 have h2:∀g:zf,(xA now g).se=g.se∧(xA now g).re=g.re:=fun g=>by
  unfold xA zh
  repeat' split
  all_goals exact ⟨rfl,rfl⟩
 have h3:(if m= -1 then zg f else f).se=f.se∧(if m= -1 then zg f else f).re=f.re:=by
  split <;> exact ⟨rfl,rfl⟩
 refine ⟨(h1 (xW _ now tl ta tc (xA now _))).1.trans ?_,(h1 (xW _ now tl ta tc (xA now _))).2.trans ?_⟩
 ·exact (h2 _).1.trans h3.1
 ·exact (h2 _).2.trans h3.2
end
end Go.Proofs.YtfdhofabgdkkkaaGreatDoor

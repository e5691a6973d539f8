/- A part of the proof that what the machine is told keeps its bounds. -/
import Derived.Test.YtfdhofabgdkkkaaGreatDoorJ23
import Derived.Test.YtfdhofabgdkkkaaGreatDoorRows
import Derived.Test.YtfdhofabgdkkkaaGreatDoorJ19
import Derived.Deep.Slices
import Derived.ProofKit
import Derived.Lib.SmallJoins
import Derived.Lib.LaidTab
import Derived.MakeChecks
set_option maxHeartbeats 128000000
set_option maxRecDepth 100000
namespace Go.Proofs.YtfdhofabgdkkkaaGreatDoor
open Go.RowKit Go.Fm Go.BigFrame Go.Shelf Go.Maps
set_option linter.unusedVariables false
set_option linter.unusedSimpArgs false
namespace Lcl
theorem region_alike {P:Program} {c:Code} {a:Act} {w:World} {Q:Exit→Act→World→Prop} (A:Nat→Act) (F:Nat→World→Prop) (hr:c.wp P (fun e a' w'=>e=.normal∧∃b,a'=A b∧F b w') a w)
  (h:∀b w',F b w'→Q .normal (A b) w'):c.wp P Q a w:=
 Code.wp_mono (fun e a' w' ⟨h1,b,h2,h3⟩=>by subst h1; subst h2; exact h b w' h3) hr
end Lcl
section
variable {w w':World} {S:Nat→Prop} {K K2 K3:Nat→Prop}
structure zIq (w:World) (q:Req) (ks:Fst) (tl:List ByteArray) (rv kv tv:Value):Prop where
 recs:xE (fun i=>i < w.heap.size) w rv q.bat.recs
 kids:xV (fun i=>i < w.heap.size) w kv ks
 tops:xS (fun i=>i < w.heap.size) w tv tl
 wf:zBf q
theorem zIq.enc {q:Req} {ks:Fst} {tl:List ByteArray} {rv kv tv:Value} (h:zIq w q ks tl rv kv tv) (hf:Fr (fun _=>False) w w') (hst:zc w'):
  xM w' q rv kv tv (fun i=>i < w.heap.size) (zI (zFo q.fop q.fnm q.fvl ks)) (zRc tl) (zJq q.fop q.fnm q.fvl ks) (zOa tl):=by
 refine ⟨h.recs.old hf,fun i hi=>Nat.lt_of_lt_of_le hi hf.size,h.wf,hst,?_,?_,?_⟩
 ·have:=zJr q.fop q.fnm q.fvl ks
  have:=xt (s:=zFo q.fop q.fnm q.fvl ks) (by omega)
  omega
 ·intro w1 cb xb hf1 hc hx hne hR w2 s bad hf2 hC hs
  have hp:zGz w2 ⟨xb,12,none⟩ q.fop q.fnm q.fvl kv:=⟨(hR.fr hf2 hne).cell 12,(hR.fr hf2 hne).cell 13,(hR.fr hf2 hne).cell 14,(hR.fr hf2 hne).cell 15⟩;have sz:=hf.size;have sz1:=hf1.size;have sz2:=hf2.size;exact zLn (K:=fun i=>i < w.heap.size) hC _ _ _ _ ks hp (((h.kids.old hf).old hf1).fr hf2 fun i hi e=>by omega) (fun i hi=>by omega) hne hs
 ·intro w1 cb xb hf1 hc hx hne hR w2 bx s bad hf2 hC hB hbn hs
  have sz:=hf.size;have sz1:=hf1.size;exact zRd (K:=fun i=>i < w.heap.size) hC tv tl ((hR.fr hf2 hne).cell 19) (((h.tops.old hf).old hf1).fr hf2 fun i hi e=>by omega) (fun hi=>by omega) bx hB hbn hne hs
end
open Go.ChangeShapes Go.WideShapes Go.ChangeAt Go.Joins Go.Deep
theorem zOb {W:World} (h:laidMetH Tryz.prog [("flotsam/crcc.steps",Rows.laid_flotsam_crcc_steps)] W):zc W:=by
 have h1:laidMet Tryz.prog [("flotsam/crcc.steps",Lib.tabData .u32 (stepL.map fun (n:Nat)=>(n:Int)))] W:=by
  rw [MakeChecks.laidMetH_plain _ _ _ (by kernel_rfl)] at h;exact h
 have hg:Tryz.prog.globalNamed "flotsam/crcc.steps"=some 0:=by kernel_rfl
 have ht:=Lib.tabIs_of_head (P:=Tryz.prog) (W:=W) (n:=16) (e:=247) hg (t:=364) (by kernel_rfl) (by kernel_rfl) (by kernel_rfl) (by kernel_rfl) (by kernel_rfl) h1;refine ⟨fun k hk=>?_⟩;rw [ht.cell hg k (by simpa [stepL] using hk)]
 match k,hk with
 | 0,_=>rfl
 | 1,_=>rfl
 | 2,_=>rfl
 | 3,_=>rfl
 | 4,_=>rfl
 | 5,_=>rfl
 | 6,_=>rfl
 | 7,_=>rfl
 | 8,_=>rfl
 | 9,_=>rfl
 | 10,_=>rfl
 | 11,_=>rfl
 | 12,_=>rfl
 | 13,_=>rfl
 | 14,_=>rfl
 | 15,_=>rfl
 | k+16,hk=>omega
theorem kL (a:Addr) (j:Nat) (h:0 < j):a.add j=⟨a.block,a.off+j,none⟩:=by unfold Addr.add; rw [if_neg (by omega)]
theorem add_zero (a:Addr):a.add 0=a:=by simp [Addr.add]
theorem q3:Tryz.prog.cellsOf 3=1:=by kernel_rfl
theorem q4:Tryz.prog.cellsOf 4=1:=by kernel_rfl
theorem q9:Tryz.prog.cellsOf 9=1:=by kernel_rfl
theorem q22:Tryz.prog.cellsOf 33=1:=by kernel_rfl
theorem q42:Tryz.prog.cellsOf 93=1:=by kernel_rfl
theorem q46:Tryz.prog.cellsOf 97=2:=by kernel_rfl
theorem q44:Tryz.prog.cellsOf 95=7:=by kernel_rfl
theorem q24:Tryz.prog.cellsOf 35=6:=by kernel_rfl
section
variable {H:Type} {enc:TypeId × Value→H} {W:World} {spare:Nat→Bool} {held:Bool}
theorem hds_of {m:Nat} {v:Value} {y:DataW H × List MemPlace} (h:DataW.trod enc Tryz.prog W 0 spare held m 93 [v]=some y):∃hs,xi (fun _=>True) W v hs:=by
 rcases open_slice Tryz.underlying93 h with ⟨h0,_⟩ | ⟨a,len,cap,m,n,D,Pl,h0,_,hl,_,hm,_,hel⟩
 ·injection h0 with h0 _
  exact ⟨[],none,0,h0,fun i x hi=>by simp at hi⟩
 ·injection h0 with h0 _
  subst h0;have hm':len≤m:=by rw [hm]; split <;> omega
  obtain ⟨l,hll,hp⟩:=jw (n:=len) (p:=fun i (x:Hdr)=>W.cell? (a.add (i * 2))=some (.string x.key)∧W.cell? ⟨(a.add (i * 2)).block,(a.add (i * 2)).off+1,none⟩=some (.string x.val)) fun i hi=>by
   obtain ⟨cs',hc,ht⟩:=hel i (by omega);rw [q46] at hc;obtain ⟨xs,n',_,_,hcl,hxl,hf⟩:=DataW.trod_struct Tryz.underlying97 ht;rw [q46] at hcl;have hx2:xs.length=2:=hxl.trans (by kernel_rfl);clear hxl
   match cs',hcl,xs,hx2 with
   | [v0,v1],_,[y0,y1],_=>
    have t0:=hf 0;have t1:=hf 1;simp [q9] at t0 t1;obtain ⟨s0,e0,-,-⟩:=DataW.trod_string Tryz.underlying9 t0;obtain ⟨s1,e1,-,-⟩:=DataW.trod_string Tryz.underlying9 t1;simp only [List.cons.injEq,and_true] at e0 e1;subst e0 e1;obtain ⟨-,-,hg⟩:=World.cells?_some hc;have g0:=hg 0 (by omega);have g1:=hg 1 (by omega);rw [add_zero] at g0;rw [kL _ 1 (by omega)] at g1;exact ⟨⟨s0,s1⟩,by simpa using g0,by simpa using g1⟩
  exact ⟨l,some a,cap,by rw [hll],fun k x hx=>⟨a,rfl,trivial,hp k x hx⟩⟩
theorem recs_of {m:Nat} {v:Value} {y:DataW H × List MemPlace} (h:DataW.trod enc Tryz.prog W 0 spare held m 33 [v]=some y):∃rs,xE (fun _=>True) W v rs:=by
 rcases open_slice Tryz.underlying33 h with ⟨h0,_⟩ | ⟨a,len,cap,m,n,D,Pl,h0,_,hl,_,hm,_,hel⟩
 ·injection h0 with h0 _
  exact ⟨[],none,0,h0,fun i x hi=>by simp at hi⟩
 ·injection h0 with h0 _
  subst h0;have hm':len≤m:=by rw [hm]; split <;> omega
  obtain ⟨l,hll,hp⟩:=jw (n:=len) (p:=fun i (x:Rec)=>∃hv,zGc W (a.add (i * 7)) x hv∧xi (fun _=>True) W hv x.hs) fun i hi=>by
   obtain ⟨cs',hc,ht⟩:=hel i (by omega);rw [q44] at hc;obtain ⟨xs,n',_,_,hcl,hxl,hf⟩:=DataW.trod_struct Tryz.underlying95 ht;rw [q44] at hcl;have hx7:xs.length=7:=hxl.trans (by kernel_rfl);clear hxl
   match cs',hcl,xs,hx7 with
   | [v0,v1,v2,v3,v4,v5,v6],_,[y0,y1,y2,y3,y4,y5,y6],_=>
    have t0:=hf 0;have t1:=hf 1;have t2:=hf 2;have t3:=hf 3;have t4:=hf 4;have t5:=hf 5;have t6:=hf 6;simp [q3,q4,q9,q42] at t0 t1 t2 t3 t4 t5 t6;obtain ⟨n0,e0,-,-⟩:=DataW.trod_int Tryz.underlying3 t0;obtain ⟨n1,e1,-,-⟩:=DataW.trod_int Tryz.underlying3 t1;obtain ⟨n2,e2,-⟩:=DataW.trod_bool Tryz.underlying4 t2;obtain ⟨n3,e3,-,-⟩:=DataW.trod_string Tryz.underlying9 t3;obtain ⟨n4,e4,-⟩:=DataW.trod_bool Tryz.underlying4 t4;obtain ⟨n5,e5,-,-⟩:=DataW.trod_string Tryz.underlying9 t5;obtain ⟨hs,h6⟩:=hds_of t6;simp only [List.cons.injEq,and_true] at e0 e1 e2 e3 e4 e5;subst e0 e1 e2 e3 e4 e5;obtain ⟨-,-,hg⟩:=World.cells?_some hc;have g0:=hg 0 (by omega);have g1:=hg 1 (by omega);have g2:=hg 2 (by omega);have g3:=hg 3 (by omega);have g4:=hg 4 (by omega);have g5:=hg 5 (by omega);have g6:=hg 6 (by omega);rw [add_zero] at g0;rw [kL _ _ (by omega)] at g1 g2 g3 g4 g5 g6;exact ⟨⟨n0,n1,n2,n3,n4,n5,hs⟩,v6,⟨by simpa using g0,by simpa using g1,by simpa using g2,by simpa using g3,by simpa using g4,by simpa using g5,by simpa using g6⟩,h6⟩
  refine ⟨l,some a,cap,by rw [hll],fun k x hx=>?_⟩;obtain ⟨hv,h1,h2⟩:=hp k x hx;exact ⟨a,hv,rfl,trivial,h1,h2⟩
end
section
variable {H:Type} {enc:TypeId × Value→H} {W:World} {spare:Nat→Bool} {held:Bool}
theorem ky {P:Program} {e:TypeId} :∀ {l:List (DataW H)} {d:DataW H},d∈l→∀n∈d.weights P e,n∈DataW.weightsAll P e l
 | [],d,h,_,_=>by cases h
 | x::l,d,h,n,hn=>by
  simp only [DataW.weightsAll,List.mem_append];rcases List.mem_cons.1 h with rfl | h
  ·exact .inl hn
  ·exact .inr (ky h n hn)
theorem zLo {e:TypeId} {a:Addr} {len m:Nat} {elems:List (DataW H × List MemPlace)} (hlen:elems.length=len) (hel:∀i,i < len→(W.cells? 0 (a.add (i * Tryz.prog.cellsOf e)) (Tryz.prog.cellsOf e)).bind (DataW.trod enc Tryz.prog W 0 spare held m e)=elems[i]?) {i:Nat} (hi:i < len):
  ∃cs y,W.cells? 0 (a.add (i * Tryz.prog.cellsOf e)) (Tryz.prog.cellsOf e)=some cs∧DataW.trod enc Tryz.prog W 0 spare held m e cs=some y∧y∈elems:=by
 have h:=hel i hi;have he:i < elems.length:=by omega
 rw [List.getElem?_eq_getElem he] at h;obtain ⟨cs,h1,h2⟩:=Option.bind_eq_some_iff.1 h;exact ⟨cs,_,h1,h2,List.getElem_mem he⟩
theorem strs_of {m:Nat} {v:Value} {y:DataW H × List MemPlace} (h:DataW.trod enc Tryz.prog W 0 spare held m 39 [v]=some y) (hw:∀n∈y.1.weights Tryz.prog 39,n≤reachBytes):∃l,xS (fun i=>i < W.heap.size) W v l:=by
 rcases DataW.trod_slice Tryz.underlying39 h with ⟨h0,-⟩ | ⟨a,len,cap,elems,rest,n,-,h0,hy,-,hl,hcm,hlen,hel,-,-⟩
 ·injection h0 with h0 _
  exact ⟨[],none,0,h0,Nat.zero_le _,fun i x hi=>by simp at hi⟩
 ·injection h0 with h0 _
  subst h0;obtain ⟨l,hll,hp⟩:=jw (n:=len) (p:=fun i (x:ByteArray)=>W.cell? (a.add i)=some (.string x)∧x.size≤150000000000000) fun i hi=>by
   obtain ⟨cs,z,hc,ht,hz⟩:=zLo hlen hel hi;rw [q9] at hc;obtain ⟨s,hs,hz2,-⟩:=DataW.trod_string Tryz.underlying9 ht;subst hs;obtain ⟨-,-,hg⟩:=World.cells?_some hc;have g0:=hg 0 (by omega);rw [add_zero,Nat.mul_one] at g0;refine ⟨s,by simpa using g0,?_⟩;have h1:s.data.toList.length∈DataW.weightsAll Tryz.prog 9 (elems.map (·.1)):=ky (List.mem_map_of_mem hz) _ (by rw [hz2]; simp [DataW.weights]);have h2:=hw s.data.toList.length (by rw [hy]; simp [DataW.weights,Tryz.underlying39]; exact .inr (.inl (by simpa using h1)));have h3:s.data.toList.length=s.size:=by rw [Array.length_toList]; rfl
   rw [h3] at h2;unfold reachBytes at h2;omega
  refine ⟨l,some a,cap,by rw [hll],by omega,fun i x hx=>⟨a,rfl,?_,(hp i x hx).1,(hp i x hx).2⟩⟩;have hb:(a.add i).block=a.block:=by unfold Addr.add; split <;> rfl
  rw [←hb];exact World.block_lt_of_cell? W _ (hp i x hx).1
def Fst.of:List (Int × ByteArray × ByteArray × Fst)→Fst
 | []=>.nil
 | x::l=>.cons x.1 x.2.1 x.2.2.1 x.2.2.2 (Fst.of l)
theorem Fst.of_len:∀l,(Fst.of l).len=l.length
 | []=>rfl
 | x::l=>by simp [Fst.of,Fst.len,Fst.of_len l]
def KidAt (W:World) (a:Addr) (i:Nat) (x:Int × ByteArray × ByteArray × Fst):Prop:=a.block < W.heap.size∧∃oa cap,zGz W (a.add (i * 4)) x.1 x.2.1 x.2.2.1 (.slice oa x.2.2.2.len cap)∧x.2.2.2.len≤maxLen∧(x.2.2.2.len=0∨∃b,oa=some b∧zBt (fun i=>i < W.heap.size) W x.2.2.2 b 0)
theorem for_of {a:Addr} :∀(l:List (Int × ByteArray × ByteArray × Fst)) (i:Nat),(∀j x,l[j]?=some x→KidAt W a (i+j) x)→zBt (fun i=>i < W.heap.size) W (Fst.of l) a i
 | [],i,_=>trivial
 | x::l,i,h=>by
  refine ⟨h 0 x rfl,for_of l (i+1) fun j y hy=>?_⟩
  have:=h (j+1) y hy
  rw [show i+1+j=i+(j+1) by omega];exact this
theorem q38e:Tryz.prog.cellsOf 38=4:=by kernel_rfl
theorem q36e:Tryz.prog.cellsOf 36=1:=by kernel_rfl
theorem kids_of (m:Nat):∀ {v:Value} {y:DataW H × List MemPlace},DataW.trod enc Tryz.prog W 0 spare held m 36 [v]=some y→∃ks,xV (fun i=>i < W.heap.size) W v ks:=by
 induction m using Nat.strongRecOn with
 | ind m ih=>
  intro v y h;rcases DataW.trod_slice Tryz.underlying36 h with ⟨h0,-⟩ | ⟨a,len,cap,elems,rest,n,hmn,h0,hy,-,hl,hcm,hlen,hel,-,-⟩
  ·injection h0 with h0 _
   exact ⟨.nil,none,0,h0,Nat.zero_le _,.inl rfl⟩
  ·injection h0 with h0 _
   subst h0;obtain ⟨l,hll,hp⟩:=jw (n:=len) (p:=fun i (x:Int × ByteArray × ByteArray × Fst)=>KidAt W a i x) fun i hi=>by
    obtain ⟨cs,z,hc,ht,hz⟩:=zLo hlen hel hi;rw [q38e] at hc;obtain ⟨xs,n',hn',_,hcl,hxl,hf⟩:=DataW.trod_struct Tryz.underlying38 ht;rw [q38e] at hcl;have hx4:xs.length=4:=hxl.trans (by kernel_rfl);clear hxl
    match cs,hcl,xs,hx4 with
    | [v0,v1,v2,v3],_,[y0,y1,y2,y3],_=>
     have t0:=hf 0;have t1:=hf 1;have t2:=hf 2;have t3:=hf 3;simp [q3,q9,q36e] at t0 t1 t2 t3;obtain ⟨n0,e0,-,-⟩:=DataW.trod_int Tryz.underlying3 t0;obtain ⟨n1,e1,-,-⟩:=DataW.trod_string Tryz.underlying9 t1;obtain ⟨n2,e2,-,-⟩:=DataW.trod_string Tryz.underlying9 t2;obtain ⟨ks,oa,cap',hv3,hml,hks⟩:=ih n' (by omega) t3;simp only [List.cons.injEq,and_true] at e0 e1 e2;subst e0 e1 e2 hv3;obtain ⟨-,-,hg⟩:=World.cells?_some hc;have g0:=hg 0 (by omega);have g1:=hg 1 (by omega);have g2:=hg 2 (by omega);have g3:=hg 3 (by omega);rw [add_zero] at g0;rw [kL _ _ (by omega)] at g1 g2 g3;have hb:(a.add (i * 4)).block=a.block:=by unfold Addr.add; split <;> rfl
     refine ⟨⟨n0,n1,n2,ks⟩,?_,oa,cap',⟨by simpa using g0,by simpa using g1,by simpa using g2,by simpa using g3⟩,hml,hks⟩;rw [←hb];exact World.block_lt_of_cell? W _ (show W.cell? (a.add (i * 4))=some _ from by simpa using g0)
   refine ⟨Fst.of l,some a,cap,by rw [Fst.of_len,hll],by rw [Fst.of_len]; omega,.inr ⟨a,rfl,for_of l 0 fun j x hx=>?_⟩⟩;rw [Nat.zero_add];exact hp j x hx
end
section
variable {w w':World} {S K:Nat→Prop}
def xL (K:Nat→Prop) (w:World) (v:Value) (l:List (ByteArray × Int)):Prop:=∃oa cap,v=.slice oa l.length cap∧l.length≤maxLen∧∀i x,l[i]?=some x→∃a,oa=some a∧K a.block∧w.cell? (a.add (i * 2))=some (.string x.1)∧w.cell? ⟨(a.add (i * 2)).block,(a.add (i * 2)).off+1,none⟩=some (.int .i64 x.2)∧x.1.size≤150000000000000
theorem xL.fr {v:Value} {l:List (ByteArray × Int)} (h:xL K w v l) (hf:Fr S w w') (hS:∀i,K i→¬S i):xL K w' v l:=by
 obtain ⟨oa,cap,rfl,hm,h1⟩:=h;refine ⟨oa,cap,rfl,hm,fun i x hx=>?_⟩;obtain ⟨a,e,hk,hc,hc1,hs⟩:=h1 i x hx;exact ⟨a,e,hk,hf.cell hc (by rw [yG]; exact hS _ hk),hf.cell hc1 (by show ¬S (a.add (i * 2)).block; rw [yG]; exact hS _ hk),hs⟩
theorem xL.old {v:Value} {l:List (ByteArray × Int)} (h:xL K w v l) (hf:Fr (fun _=>False) w w'):xL K w' v l:=h.fr hf fun _ _ h=>h
theorem xL.mono {K':Nat→Prop} {v:Value} {l:List (ByteArray × Int)} (h:xL K w v l) (hK:∀b,K b→b < w.heap.size→K' b):xL K' w v l:=by
 obtain ⟨oa,cap,rfl,hm,h1⟩:=h;refine ⟨oa,cap,rfl,hm,fun i x hx=>?_⟩;obtain ⟨a,e,hk,hc,hc1,hs⟩:=h1 i x hx;exact ⟨a,e,hK _ hk (by have:=World.block_lt_of_cell? w _ hc; rwa [yG] at this),hc,hc1,hs⟩
theorem xL.nil:xL K w (.slice none 0 0) []:=⟨none,0,rfl,Nat.zero_le _,fun _ _ h=>by simp at h⟩
theorem xS.mono {K':Nat→Prop} {v:Value} {l:List ByteArray} (h:xS K w v l) (hK:∀b,K b→b < w.heap.size→K' b):xS K' w v l:=by
 obtain ⟨oa,cap,rfl,hm,h1⟩:=h;refine ⟨oa,cap,rfl,hm,fun i x hx=>?_⟩;obtain ⟨a,e,hk,hc,hs⟩:=h1 i x hx;exact ⟨a,e,hK _ hk (by have:=World.block_lt_of_cell? w _ hc; rwa [yG] at this),hc,hs⟩
theorem xS.nil:xS K w (.slice none 0 0) []:=⟨none,0,rfl,Nat.zero_le _,fun _ _ h=>by simp at h⟩
structure Mem where
 id:Int
 tl:List ByteArray
 un:Int
 jo:Bool
 pl:List (ByteArray × Int)
structure zN where
 m:Mem
 ta:Option Addr
 tn:Nat
 tc:Nat
 pa:Option Addr
 pn:Nat
 pc:Nat
def jn (z:zN):List Value:=[.int .i64 z.m.id,.slice z.ta z.tn z.tc,.int .i64 z.m.un,.bool z.m.jo,.slice z.pa z.pn z.pc]
theorem uv (z:zN):(jn z).length=5:=rfl
def zIr (z:zN):Value:=.agg #[.int .i64 z.m.id,.slice z.ta z.tn z.tc,.int .i64 z.m.un,.bool z.m.jo,.slice z.pa z.pn z.pc]
def zo (w:World) (v:Value) (zs:List zN):Prop:=w.ownsRow 1 266 5 v zs.length (zs.flatMap jn)
theorem zTp:(Tryz.prog.info? 266).map (fun i=>(i.zero,i.size,i.bytes))=some (some (.agg #[.int .i64 0,.slice none 0 0,.int .i64 0,.bool false,.slice none 0 0]),5,72):=by kernel_rfl
theorem zo.fr {v:Value} {zs:List zN} (h:zo w v zs) (hf:Fr S w w') (hS:∀k,v.ownBlock=some k→¬S k):zo w' v zs:=zl h fun k hk=>hf.block k (zK h hk).2 (hS k hk)
theorem zo.old {v:Value} {zs:List zN} (h:zo w v zs) (hf:Fr (fun _=>False) w w'):zo w' v zs:=h.fr hf fun _ _ h=>h
theorem zo.slice {v:Value} {zs:List zN} (h:zo w v zs):∃oa cap,v=.slice oa zs.length cap:=by
 obtain ⟨oa,cap,hv,-⟩:=xz h;exact ⟨oa,cap,hv⟩
structure MemAt (w:World) (g k:Nat) (z:zN):Prop where
 c0:w.cell? ⟨g,k * 5,none⟩=some (.int .i64 z.m.id)
 c1:w.cell? ⟨g,k * 5+1,none⟩=some (.slice z.ta z.tn z.tc)
 c2:w.cell? ⟨g,k * 5+2,none⟩=some (.int .i64 z.m.un)
 c3:w.cell? ⟨g,k * 5+3,none⟩=some (.bool z.m.jo)
 c4:w.cell? ⟨g,k * 5+4,none⟩=some (.slice z.pa z.pn z.pc)
theorem zo.at {v:Value} {zs:List zN} (h:zo w v zs) {k:Nat} {z:zN} (hz:zs[k]?=some z):∃g cap,v=.slice (some ⟨g,0,none⟩) zs.length cap∧v.ownBlock=some g∧MemAt w g k z:=by
 obtain ⟨oa,cap,hv,hc⟩:=xz h;obtain ⟨g,rfl,ho,hB,hc⟩:=hc (by have:=(List.getElem?_eq_some_iff.1 hz).1; omega);have hget:∀j,j < 5→(zs.flatMap jn)[k * 5+j]?=(jn z)[j]?:=fun j hj=>xB jn 5 uv hz hj
 exact ⟨g,cap,hv,ho,hc _ _ (hget 0 (by omega)),hc _ _ (hget 1 (by omega)),hc _ _ (hget 2 (by omega)),hc _ _ (hget 3 (by omega)),hc _ _ (hget 4 (by omega))⟩
theorem vL {B:Nat} {e:TypeId} {s n:Nat} {v:Value} {xs:List Value} (h:w.ownsRow B e s v n xs) {g:Nat} (hg:v.ownBlock=some g) (o:Nat) (u:Value):
  (w.setCell ⟨g,o,none⟩ u).ownsRow B e s v n (xs.set o u):=by
 refine ⟨by rw [List.length_set]; exact h.1,?_⟩;rcases h.2 with ⟨rfl,rfl⟩ | ⟨g',cap,cur,rfl,hb,hh,hnc,hcm,hcs,ht⟩
 ·cases hg
 ·have hg:g'=g:=Option.some.inj hg
  subst hg;refine .inr ⟨g',cap,cur.setIfInBounds o u,rfl,hb,zE hh u,hnc,hcm,by simp [hcs],?_⟩;rw [Array.toList_setIfInBounds,←ht,List.take_set]
theorem zTq {B:Nat} {e:TypeId} {s n:Nat} {oa:Option Addr} {cap:Nat} {xs:List Value} (h:w.ownsRow B e s (.slice oa n cap) n xs) {i:Nat} (hi:i≤n):w.ownsRow B e s (.slice oa i cap) i (xs.take (i * s)):=by
 have hle:i * s≤n * s:=Nat.mul_le_mul_right _ hi;refine ⟨by rw [List.length_take,h.1]; omega,?_⟩;rcases h.2 with ⟨hv,h0⟩ | ⟨g',cap',cur,hv,hb,hh,hnc,hcm,hcs,ht⟩
 ·injection hv with e1 e2 e3
  subst e1 e3;obtain rfl:i=0:=by omega
  exact .inl ⟨rfl,rfl⟩
 ·injection hv with e1 e2 e3
  subst e1 e3;exact .inr ⟨g',cap,cur,rfl,hb,hh,by omega,hcm,hcs,by rw [←ht,List.take_take,Nat.min_eq_left hle]⟩
theorem zHd {α:Type} (f:α→List Value) (n:Nat) (hn:∀x,(f x).length=n):∀ {l:List α} {k:Nat} {x x':α} {j:Nat} {u:Value},l[k]?=some x→j < n→(f x).set j u=f x'→(l.flatMap f).set (k * n+j) u=(l.set k x').flatMap f
 | [],k,x,x',j,u,h,_,_=>by simp at h
 | a::l,0,x,x',j,u,h,hj,he=>by
  simp at h; subst h
  rw [List.flatMap_cons,Nat.zero_mul,Nat.zero_add,List.set_append_left _ _ (by rw [hn]; exact hj),he];rfl
 | a::l,k+1,x,x',j,u,h,hj,he=>by
  rw [List.flatMap_cons,List.set_append_right _ _ (by rw [hn,Nat.succ_mul]; omega),hn,show (k+1) * n+j - n=k * n+j by rw [Nat.succ_mul]; omega,zHd f n hn (by simpa using h) hj he];rfl
theorem zAu {α:Type} (f:α→List Value) (n:Nat) (hn:∀x,(f x).length=n):∀(l:List α) (i:Nat),(l.flatMap f).take (i * n)=(l.take i).flatMap f
 | [],i=>by simp
 | a::l,0=>by simp
 | a::l,i+1=>by
  rw [List.flatMap_cons,List.take_succ_cons,List.flatMap_cons,List.take_append,hn,Nat.succ_mul,List.take_of_length_le (by rw [hn]; omega),show i * n+n - n=i * n by omega,zAu f n hn l i]
theorem zo.set {v:Value} {zs:List zN} (h:zo w v zs) {g:Nat} (hg:v.ownBlock=some g) {k j:Nat} {z z':zN} {u:Value} (hz:zs[k]?=some z) (hj:j < 5) (he:(jn z).set j u=jn z'):zo (w.setCell ⟨g,k * 5+j,none⟩ u) v (zs.set k z'):=by
 have:=vL h hg (k * 5+j) u
 rw [zHd jn 5 uv hz hj he] at this;unfold zo;rw [List.length_set];exact this
theorem zo.cut {oa:Option Addr} {cap n:Nat} {zs:List zN} (h:zo w (.slice oa n cap) zs) {i:Nat} (hi:i≤zs.length):zo w (.slice oa i cap) (zs.take i):=by
 obtain ⟨oa',cap',hv⟩:=h.slice;injection hv with e1 e2 e3
 subst e1 e2 e3
 have:=zTq h hi
 rw [zAu jn 5 uv] at this;unfold zo;rw [List.length_take,Nat.min_eq_left hi];exact this
theorem zJt {α:Type} (f:α→List Value) (n:Nat) (hn:∀x,(f x).length=n):∀(l:List α) (i:Nat),(l.flatMap f).drop (i * n)=(l.drop i).flatMap f
 | [],i=>by simp
 | a::l,0=>by simp
 | a::l,i+1=>by
  rw [List.flatMap_cons,List.drop_succ_cons,List.drop_append,hn,Nat.succ_mul,List.drop_of_length_le (by rw [hn]; omega),show i * n+n - n=i * n by omega,zJt f n hn l i];rfl
def setL:List Value→Nat→List Value→List Value
 | xs,_,[]=>xs
 | xs,o,u::vs=>setL (xs.set o u) (o+1) vs
theorem zTr:∀(vs:List Value) (o:Nat) (xs:List Value),o+vs.length≤xs.length→setL xs o vs=xs.take o++vs++xs.drop (o+vs.length)
 | [],o,xs,h=>by simp [setL]
 | u::vs,o,xs,h=>by
  have hlt:o < xs.length:=by simp at h; omega
  rw [setL,zTr vs (o+1) _ (by simp at h ⊢; omega),List.take_set,List.drop_set_of_lt (by omega)];have h1:(xs.take (o+1)).set o u=xs.take o++ [u]:=by
   rw [List.take_add_one,List.getElem?_eq_getElem hlt,Option.toList_some,List.set_append_right _ _ (by rw [List.length_take]; omega)];simp [Nat.min_eq_left (Nat.le_of_lt hlt)]
  rw [h1,List.length_cons,show o+1+vs.length=o+(vs.length+1) by omega];simp
theorem zOc {B:Nat} {e:TypeId} {s n:Nat} {v:Value} {g:Nat} (hg:v.ownBlock=some g):∀(vs:List Value) (o:Nat) (w:World) (xs:List Value),w.ownsRow B e s v n xs→(w.setCells g o vs).ownsRow B e s v n (setL xs o vs)
 | [],o,w,xs,h=>h
 | u::vs,o,w,xs,h=>zOc hg vs (o+1) _ _ (vL h hg o u)
theorem zo.put {v:Value} {zs:List zN} (h:zo w v zs) {g:Nat} (hg:v.ownBlock=some g) {k:Nat} (hk:k < zs.length) (z':zN):zo (w.setCells g (k * 5) (jn z')) v (zs.set k z'):=by
 have h1:=zOc hg (jn z') (k * 5) _ _ h;rw [zTr _ _ _ (by rw [uI jn 5 uv,uv]; omega),uv,zAu jn 5 uv,show k * 5+5=(k+1) * 5 by omega,zJt jn 5 uv] at h1;unfold zo;rw [List.length_set,List.set_eq_take_append_cons_drop,if_pos hk,List.flatMap_append,List.flatMap_cons,←List.append_assoc];exact h1
theorem zAa {g:Nat} :∀(vs:List Value) (o:Nat) (w0 w:World),Fr S w0 w→S g→Fr S w0 (w.setCells g o vs)
 | [],o,w0,w,h,hg=>h
 | u::vs,o,w0,w,h,hg=>zAa vs (o+1) w0 _ (h.setCell (p:=⟨g,o,none⟩) (.inl hg) u) hg
theorem zo.frame (v:Value) {g:Nat} (hg:v.ownBlock=some g) (w:World) (o:Nat) (u:Value):Fr (fun i=>v.ownBlock=some i) w (w.setCell ⟨g,o,none⟩ u):=(Fr.refl _ w).setCell (p:=⟨g,o,none⟩) (.inl hg) u
end
end Go.Proofs.YtfdhofabgdkkkaaGreatDoor

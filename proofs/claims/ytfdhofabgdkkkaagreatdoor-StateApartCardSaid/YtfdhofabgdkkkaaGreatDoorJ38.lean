/- A part of the proof that what the machine is told keeps its bounds. -/
import Derived.Shelf.Sort.Plain
import Derived.Shelf.Slices.In.SortNone
import Derived.Test.YtfdhofabgdkkkaaGreatDoorProg
import Derived.Test.YtfdhofabgdkkkaaGreatDoorJ37
import Derived.RangeFuncNested
import Derived.RangeFuncBound
import Derived.RangeFuncBox
import Derived.RangeFuncCalls
import Derived.RangeFuncLeaves
import Derived.Shelf.Abstract
import Derived.Shelf.RegionOpen
import Derived.WalkKit
import Derived.OwnWalkIn
import Derived.TacticsInMore
import Derived.LoopNIn
import Derived.LoopIn
import Derived.Sort.MapsRangeIn
import Derived.Maps.AppendAt
import Derived.Sort.OwnSorted
import Derived.Maps.OwnOps
set_option maxHeartbeats 128000000
set_option maxRecDepth 100000
namespace Go.Proofs
open Go.Shelf
def Tryz.lays190_ren:Go.Shelf.Ren:=⟨fun | 190=>194 | 125=>244 | 258=>243 | 128=>289 | 129=>290 | 302=>280 | 303=>281 | 304=>282 | 305=>283 | 306=>284 | 307=>285 | 308=>286 | 309=>287 | 310=>288 | 333=>301 | 329=>302 | 330=>303 | 334=>304 | 335=>305 | 336=>306 | 344=>313 | n=>n,fun | 31=>39 | 9=>9 | 3=>3 | 46=>309 | 0=>0 | 51=>247 | 53=>308 | 4=>4 | 183=>386 | 182=>385 | 131=>179 | 5=>5 | 218=>401 | 222=>224 | 228=>415 | 229=>416 | n=>n,fun | n=>n⟩
theorem Tryz.lays190:Go.Proofs.Lays.n190 Tryz.prog Tryz.lays190_ren:= {
 mixed:=by kernel_rfl
 f125:=Tryz.func244.trans (congrArg some (by kernel_rfl))
 f128:=Tryz.func289.trans (congrArg some (by kernel_rfl))
 f129:=Tryz.func290.trans (congrArg some (by kernel_rfl))
 f190:=Tryz.func194.trans (congrArg some (by kernel_rfl))
 f258:=Tryz.func243.trans (congrArg some (by kernel_rfl))
 f302:=Tryz.func280.trans (congrArg some (by kernel_rfl))
 f303:=Tryz.func281.trans (congrArg some (by kernel_rfl))
 f304:=Tryz.func282.trans (congrArg some (by kernel_rfl))
 f305:=Tryz.func283.trans (congrArg some (by kernel_rfl))
 f306:=Tryz.func284.trans (congrArg some (by kernel_rfl))
 f307:=Tryz.func285.trans (congrArg some (by kernel_rfl))
 f308:=Tryz.func286.trans (congrArg some (by kernel_rfl))
 f309:=Tryz.func287.trans (congrArg some (by kernel_rfl))
 f310:=Tryz.func288.trans (congrArg some (by kernel_rfl))
 f329:=Tryz.func302.trans (congrArg some (by kernel_rfl))
 f330:=Tryz.func303.trans (congrArg some (by kernel_rfl))
 f333:=Tryz.func301.trans (congrArg some (by kernel_rfl))
 f334:=Tryz.func304.trans (congrArg some (by kernel_rfl))
 f335:=Tryz.func305.trans (congrArg some (by kernel_rfl))
 f336:=Tryz.func306.trans (congrArg some (by kernel_rfl))
 f344:=Tryz.func313.trans (congrArg some (by kernel_rfl))
 t0:=Tryz.underlying0
 a0:=Tryz.isAgg0
 z0:=Tryz.sizeOf0
 v0:=Tryz.zeroValue0
 t3:=Tryz.underlying3
 a3:=Tryz.isAgg3
 z3:=Tryz.sizeOf3
 v3:=Tryz.zeroValue3
 t4:=Tryz.underlying4
 a4:=Tryz.isAgg4
 z4:=Tryz.sizeOf4
 v4:=Tryz.zeroValue4
 t5:=Tryz.underlying5
 a5:=Tryz.isAgg5
 z5:=Tryz.sizeOf5
 v5:=Tryz.zeroValue5
 t9:=Tryz.underlying9
 a9:=Tryz.isAgg9
 z9:=Tryz.sizeOf9
 v9:=Tryz.zeroValue9
 t31:=Tryz.underlying39
 a31:=Tryz.isAgg39
 z31:=Tryz.sizeOf39
 v31:=Tryz.zeroValue39
 t46:=Tryz.underlying309
 a46:=Tryz.isAgg309
 z46:=Tryz.sizeOf309
 v46:=Tryz.zeroValue309
 t51:=Tryz.underlying247
 a51:=Tryz.isAgg247
 z51:=Tryz.sizeOf247
 v51:=Tryz.zeroValue247
 t53:=Tryz.underlying308
 a53:=Tryz.isAgg308
 z53:=Tryz.sizeOf308
 v53:=Tryz.zeroValue308
 t131:=Tryz.underlying179
 a131:=Tryz.isAgg179
 z131:=Tryz.sizeOf179
 v131:=Tryz.zeroValue179
 t182:=Tryz.underlying385
 a182:=Tryz.isAgg385
 z182:=Tryz.sizeOf385
 v182:=Tryz.zeroValue385
 t183:=Tryz.underlying386
 a183:=Tryz.isAgg386
 z183:=Tryz.sizeOf386
 v183:=Tryz.zeroValue386
 t218:=Tryz.underlying401
 a218:=Tryz.isAgg401
 z218:=Tryz.sizeOf401
 v218:=Tryz.zeroValue401
 t222:=Tryz.underlying224
 a222:=Tryz.isAgg224
 z222:=Tryz.sizeOf224
 v222:=Tryz.zeroValue224
 t228:=Tryz.underlying415
 a228:=Tryz.isAgg415
 z228:=Tryz.sizeOf415
 v228:=Tryz.zeroValue415
 t229:=Tryz.underlying416
 a229:=Tryz.isAgg416
 z229:=Tryz.sizeOf416
 v229:=Tryz.zeroValue416 }
open Go.Sort Go.RowKit in
theorem Tryz.slices_Sort_string (blk off cap:Nat) (ss:List (List UInt8)) (w:World) (hH:Holds encStr w blk off ss.toArray) (hblk:blk < w.heap.size) (hsz:ss.length < 4611686018427387904):
  Calls Tryz.prog 194 #[.slice (some ⟨blk,off,none⟩) ss.length cap] w fun e w'=>
   e=.returned (.tuple #[])∧∃n os,w'=grow (putRow encStr (Sort.ahead w n) blk off (ss.mergeSort fun x y=>decide (x≤y)).toArray) os:=Any.slices_Sort_string Tryz.lays190 blk off cap ss w hH hblk hsz
open Go.RowKit Go.Sort in
theorem Tryz.slices_Sort_string_none (p:Option Addr) (cap:Nat) (w:World):
  Calls Tryz.prog 194 #[.slice p 0 cap] w fun e w'=>e=.returned (.tuple #[])∧w'=w:=Any.slices_Sort_string_none Tryz.lays190 p cap w
end Go.Proofs
namespace Go.Proofs.YtfdhofabgdkkkaaGreatDoor
open Lib renaming hid→zz
open Go.RowKit Go.Fm Go.BigFrame Go.Shelf Go.Maps
set_option linter.unusedVariables false
set_option linter.unusedSimpArgs false
structure tRowsD (D:DataW Value) (L:List (ByteArray × Value)):Prop where
 rows:zBe jF L
 size:Maps.size D=L.length
 atk:∀k:ByteArray,k.size≤maxLen→∀z,D.atKey (jF.kl k) z=match zk L k with | some a=>.held a | none=>z
theorem kl_inj {a b:ByteArray} (h:jF.kl a=jF.kl b):a=b:=by
 have h:Lit.string a.data.toList=Lit.string b.data.toList:=h;injection h with h
 exact ByteArray.ext (Array.toList_inj.1 h)
theorem zPc {L:List (ByteArray × Value)} (hn:(L.map (·.1)).Nodup) {k:ByteArray} {a:Value} (h:(k,a)∈L):zk L k=some a:=by
 cases hg:zk L k with
 | none=>
  exfalso
  unfold zk at hg;simp at hg;exact hg k a h rfl
 | some b=>
  have:=zFs hn h (xH hg) rfl
  rw [Prod.mk.injEq] at this;rw [this.2]
theorem zLz {w:World} {b:Nat} {L:List (ByteArray × Value)} (h:xT jF w b L):∃D,w.ownsMap Tryz.prog 9 kZ b (Maps.size D) D∧tRowsD D L:=by
 obtain ⟨h0,D,h1,h2,h3⟩:=h;exact ⟨D,h1,h0,h2,h3⟩
structure zKm (L:List (ByteArray × Value)) (left:Lit→Bool) (ss:List ByteArray):Prop where
 nodup:ss.Nodup
 mem:∀k,k∈ss↔(zk L k).isSome=true∧left (jF.kl k)=false
 ok:∀k∈ss,k.size≤maxLen
theorem zKm.perm {L:List (ByteArray × Value)} {left:Lit→Bool} {ss:List ByteArray} (h:zKm L left ss) (hL:zBe jF L) (hl:∀x,left x=false):ss.Perm (L.map (·.1)):=by
 refine (List.perm_ext_iff_of_nodup h.nodup hL.nodup).2 fun k=>?_
 rw [h.mem k,hl];constructor
 ·rintro ⟨h1,-⟩
  obtain ⟨a,ha⟩:=Option.isSome_iff_exists.1 h1;exact List.mem_map.2 ⟨_,xH ha,rfl⟩
 ·intro hm
  obtain ⟨r,hr,rfl⟩:=List.mem_map.1 hm;obtain ⟨k,a⟩:=r;exact ⟨by rw [zPc hL.nodup hr]; rfl,rfl⟩
theorem zKm.step {L:List (ByteArray × Value)} {left:Lit→Bool} {ss:List ByteArray} (h:zKm L left ss) (hL:zBe jF L) {k:ByteArray} (hk:k.size≤maxLen) (hm:(zk L k).isSome=true) (hlk:left (jF.kl k)=true):
  zKm L (fun z=>left z && !z.sameKey (jF.kl k)) (ss++ [k]):=by
 have hnew:k ∉ ss:=fun hx=>by have:=((h.mem k).1 hx).2; rw [hlk] at this; cases this
 have hleft:∀k2,k2.size≤maxLen→((left (jF.kl k2) && !(jF.kl k2).sameKey (jF.kl k))=false↔(left (jF.kl k2)=false∨k2=k)):=fun k2 hk2=>by
  by_cases e:k2=k
  ·subst e
   have:(jF.kl k2).sameKey (jF.kl k2)=true:=WideAt.sameKey_self trivial
   simp [this]
  ·have:(jF.kl k2).sameKey (jF.kl k)=false:=sameKey_ne fun h=>e (kl_inj h)
   simp [this,e]
 refine ⟨List.nodup_append.2 ⟨h.nodup,by simp,fun a ha b hb=>by simp at hb; subst hb; exact fun e=>hnew (e ▸ ha)⟩,fun k2=>?_,fun k2 hk2=>?_⟩
 ·have hok:(zk L k2).isSome=true→k2.size≤maxLen:=fun h1=>by
   obtain ⟨a,ha⟩:=Option.isSome_iff_exists.1 h1;exact hL.ok _ (xH ha)
  rw [List.mem_append,List.mem_singleton,h.mem k2];constructor
  ·rintro (⟨h1,h2⟩ | rfl)
   ·exact ⟨h1,(hleft k2 (hok h1)).2 (.inl h2)⟩
   ·exact ⟨hm,(hleft k2 hk).2 (.inr rfl)⟩
  ·rintro ⟨h1,h2⟩
   rcases (hleft k2 (hok h1)).1 h2 with h3 | h3
   ·exact .inl ⟨h1,h3⟩
   ·exact .inr h3
 ·rcases List.mem_append.1 hk2 with h1 | h1
  ·exact h.ok k2 h1
  ·rw [List.mem_singleton.1 h1]; exact hk
theorem zPd (n:Nat) (hn:1≤n) (Bm b:Nat) (L:List (ByteArray × Value)) (w:World) (hBm:Bm < w.heap.size) (hm:w.cell? ⟨Bm,0,none⟩=some (.map (some b))) (ht:xT jF w b L):
  SeqStopsK Fence.wide n Tryz.prog 195 #[.pointer (some ⟨Bm,0,none⟩)] (fun k:ByteArray=>#[.string k]) KeepsWalks (fun ss=>ss.Perm (L.map (·.1))) (fun _=>True) L.length w:=by
 intro l J Jx W hW hJ hJx hY h0;have hm':=(hW.cell (p:=⟨Bm,0,none⟩) hBm).trans hm;have ht':xT jF W b L:=ht.to (hW.block b ht.lt);obtain ⟨D,ho,hD⟩:=zLz ht';have HO:=zz ho;have HD:=zz hD;have HY:=zz hY;have HJ:=zz hJ;have HJX:=zz hJx;have HT:=zz ht';clear ho hD hY hJ hJx ht' ht hm hW;refine callsIn_of_wp Tryz.func195 rfl trivial ?_ rfl;simp only [Tryz.ntmps195,List.size_toArray,List.length_cons,List.length_nil,Nat.reduceAdd,Nat.reduceSub,Array.replicate_succ,Array.replicate_zero,List.push_toArray,List.append_toArray,List.nil_append,List.cons_append]
 gi_wp2_with (first
  | (gi_at_range; refine wpListIn_range_own _ rfl _ 140 rfl 9 158 vz.keyed Tryz.underlying140 _ b _ _ rfl HO.out ?_; intro w0 hrg0 hg0 hs0)
  | gi_in)
 gi_loopw [3] (fun _ wr=>∃(left:Lit→Bool) (cnt:Nat) (ss:List ByteArray),wr.ranges Tryz.prog 9 kZ b W.heap.size (Maps.size D) D left cnt∧ss.length+cnt≤L.length∧zKm L left ss∧J ss wr)
  (fun _ wr=>wr.rangeLeft b W.heap.size)
 case atStart=>
  refine ⟨_,_,[],hrg0,by have:=HD.out.size; simp; omega,⟨by simp,fun k=>?_,fun k h=>by cases h⟩,HJ.out [] W w0 none h0 hg0 (fun r e=>by cases e)⟩;constructor
  ·intro h; cases h
  ·rintro ⟨h1,h2⟩
   obtain ⟨a,ha⟩:=Option.isSome_iff_exists.1 h1;rw [xT.has (q:=jF) HD.out.atk (HT.out.1.ok _ (xH ha)),h1] at h2;cases h2
 case round=>
  obtain ⟨left,cnt,ss,hrg,hcs,hC,hJs⟩:=hrel;have HRG:=zz hrg;have HC:=zz hC;have HJS:=zz hJs;clear hrg hC hJs
  gi_wp2_with (first
   | (gi_at_next; refine wpListIn_next_ranges _ rfl _ rfl 9 vz.keyed kZ Value.string (fun v:Value=>v) (fun key kl hk=>by obtain ⟨k,e,_,_⟩:=WideMaps.string_of_keyOf Tryz.underlying9 hk; exact ⟨k,e⟩) (fun v y hv=>⟨v,rfl⟩) b W.heap.size _ _ _ _ rfl HRG.out ?_ ?_)
   | gi_in)
  ·intro hc0 hl0
   gi_wp2
   go_end0
   exact ⟨⟨_,rfl⟩,.inl ⟨ss,HC.out.perm HT.out.1 hl0,HJS.out⟩⟩
  ·intro k c kl yd yp w2 cnt2 hkey hlk hv hat hrg2 hlt hg2 hs2 hen
   obtain ⟨k',ek,rfl,hok⟩:=WideMaps.string_of_keyOf Tryz.underlying9 hkey;injection ek with ek
   subst ek;have hmem:(zk L k).isSome=true:=by
    rw [←xT.has (q:=jF) HD.out.atk hok];exact has_true_of_atKey hat
   have hJ2:J ss w2:=HJ.out ss wr w2 (some W.heap.size) HJS.out hg2 (fun r e=>by cases e; exact ⟨Nat.le_refl _,HRG.out.iter_walk⟩);have hJ3:=hJ2;have hrg3:w2.ranges Tryz.prog 9 kZ b W.heap.size (Maps.size D) D (fun z=>left z && !z.sameKey (jF.kl k)) cnt2:=hrg2;have hC2:=HC.out.step HT.out.1 hok hmem hlk;obtain ⟨fn,tmps,assign,body,hy,hR⟩:=HY.out ss k _ hJ3 (by omega);have HR:=zz hR;have HRG3:=zz hrg3;have HC2:=zz hC2;have HLT:=zz hlt;clear hs2 hJ2 hJ3 hrg2 hrg3 hC2 hR hlt hg2 hat hv hkey hmem hlk
   gi_wp2
   refine HR.out.mono ?_;rintro e W3 (⟨rfl,hJ3,hk3⟩ | ⟨rfl,hJx3⟩)
   ·have hrg4:=HRG3.out.of_walks hk3
    have HRG4:=zz hrg4;have HJ3:=zz hJ3;clear hrg4 hJ3
    gi_wp2
    go_roundw
    case rel=>exact ⟨_,cnt2,ss++ [k],HRG4.out,by simp; have:=HLT.out; omega,HC2.out,HJ3.out⟩
    case measure=>rw [HRG4.out.left_eq,HRG.out.left_eq]; exact HLT.out
   ·have HJX3:=zz hJx3
    clear hJx3
    gi_wp2
    refine bodyPost_ret (results_none rfl _ _ _) rfl ?_;exact ⟨⟨_,rfl⟩,.inr ⟨_,trivial,HJX3.out⟩⟩
theorem tinfo9s:(Tryz.prog.info? 9).map (fun i=>(i.zero,i.size,i.bytes))=some (some (.string ⟨#[]⟩),1,16):=by kernel_rfl
theorem tkey_new (w:World) (k:ByteArray) (t:TypeId):∀j u,([.string k]:List Value)[j]?=some u→(w.alloc (.cells #[.string k] t)).cell? ((⟨w.heap.size,0,none⟩:Addr).add j)=some u:=by
 intro j u hj
 match j,hj with
 | 0,hj=>simp at hj; subst hj; simp [Addr.add,zD]
def tNameAct (sv bs:Value) (k:ByteArray) (a:Act) (W:World):Prop:=
 a= { tmps:=#[.slice none 0 0,sv,bs,undef,.slice none 0 0,.string k,sv,.string k,undef,undef,undef,undef,undef],defers:=[] }
theorem zMa (Bm b:Nat) (L:List (ByteArray × Value)) (w:World) (hBm:Bm < w.heap.size) (hm:w.cell? ⟨Bm,0,none⟩=some (.map (some b))) (ht:xT jF w b L) (hlen:L.length≤10000):
  CallsIn Fence.wide 3 Tryz.prog 242 #[.slice none 0 0,.func (.func 195) #[] #[.pointer (some ⟨Bm,0,none⟩)]] w fun e w'=>∃(v:Value) (ss:List ByteArray),e=.returned v∧ss.Perm (L.map (·.1))∧
   w'.ownsRow w.heap.size 9 1 v ss.length (ss.flatMap vV)∧(v=.slice none 0 0↔ss=[])∧Below w.heap.size w w':=by
 obtain ⟨i0,hi,hz0,hz1,hz2⟩:=info_parts tinfo9s;have HI:=zz hi;refine callsIn_of_wp_marks Tryz.func242 rfl trivial ?_ rfl;simp only [Tryz.ntmps242,List.size_toArray,List.length_cons,List.length_nil,Nat.reduceAdd,Nat.reduceSub,Array.replicate_succ,Array.replicate_zero,List.push_toArray,List.append_toArray,List.nil_append,List.cons_append]
 gi_wp2
 have bO:=Boxed.new w 39 (.slice none 0 0);have hB0:Below w.heap.size w (w.alloc (.cells #[.slice none 0 0] 39)):=(Below.refl _ w).alloc (Nat.le_refl _) _;have hst:=zPd 2 (by omega) Bm b L _ (Nat.lt_of_lt_of_le hBm hB0.size) ((hB0.cell (p:=⟨Bm,0,none⟩) hBm).trans hm) (ht.to (hB0.block b ht.lt));refine wpIn_rangeFunc_ownH rfl (by omega) (gf:=195) (lb:=#[.pointer (some ⟨Bm,0,none⟩)]) rfl trivial (enters_of Tryz.func195 (by kernel_rfl) rfl)
  hst walksK_t walksK_b (Below.refl _ _) (fun _=>rfl)
  (fun pre W=>(∃v,Boxed W w.heap.size 39 v∧W.ownsRow w.heap.size 9 1 v pre.length (pre.flatMap vV)∧(v=.slice none 0 0↔pre=[]))∧Below w.heap.size w W)
  (fun _ _ _=>False)
  (OwnFrom.and (Own.from (holdsRow_own w.heap.size w.heap.size 39 9 1 (fun pre=>pre.length) (fun pre=>pre.flatMap vV) (fun pre v=>v=.slice none 0 0↔pre=[])) _) (ownFrom_below (Nat.le_refl _) (by simp)))
  (fun _ _ _ _ _ hs _ _=>hs)
  ⟨⟨_,bO,World.ownsRow_nil _ _ _ _,by simp⟩,hB0⟩
  (tNameAct (.func (.func 195) #[] #[.pointer (some ⟨Bm,0,none⟩)]) (.pointer (some ⟨w.heap.size,0,none⟩)))
  ?ax ?assign ?body ?done ?stop
 case ax=>
  rintro k a' _ A B row h hg hr;exact h
 case assign=>
  rintro l pre x W K ⟨⟨v,hv,hrow,hnil⟩,hB⟩ hK
  gi_wp2_with (rw [Oper.semAt_eq _ _ _ (fun c h=>by cases h)]; go_simp; try go_bits)
  exact hK _ _ ((KeepsOthers.refl _).from _) (KeepsOthers.refl _).walks ⟨⟨v,hv,hrow,hnil⟩,hB⟩ rfl
 case body=>
  rintro l pre x a' W hl hr ⟨⟨v,hv,hrow,hnil⟩,hB⟩ rfl hlt;have hc:=hv.cell;clear hst ht hm bO hi
  gi_wp2_with (first
   | (gi_at_builtin; refine wpListIn_append_own _ rfl _ _ 39 rfl w.heap.size 9 i0 (.string ⟨#[]⟩) 1 16 Tryz.underlying39 HI.out hz0 hz1 hz2 rfl (by decide) _ _ _ rfl (hrow.alloc _) ⟨W.heap.size,0,none⟩ 1 1 [.string x] rfl rfl (tkey_new _ _ _) (by simp [Value.oneCell']) (by unfold maxLen; omega) (by omega) (by have:=hB.size; simp; omega) ?_; intro v' w1 hown' hgrow _; obtain ⟨g',cap',rfl⟩:=ownsRow_succ hown'; obtain ⟨hv1,hv2,hr2,hk2,hb2⟩:=hv.appended (by decide) hrow hB.size (Nat.le_refl _) hown' hgrow; have hc1:=hv1.cell; have hf1:=hv1.frozen)
   | (rw [Oper.semAt_eq _ _ _ (fun c h=>by cases h)]; go_simp; try go_bits))
  exact ⟨hk2.from _,⟨hk2.size,fun k o h1 h2=>hk2.same k o h1 (Obj.not_cells_of_walk h2)⟩,⟨_,hv2,by simpa [vV] using hr2,by simp⟩,hB.trans hb2⟩
 case done=>
  rintro D ys W hD hS ⟨⟨v,hv,hrow,hnil⟩,hB⟩ hK;have hc:=hv.cell
  gi_wp2
  refine ⟨by simp,.inl ⟨_,_,rfl,run_takeDeferred hK,?_⟩⟩;exact ⟨_,results_tmp rfl _ _ _,v,ys,rfl,hS,ownsRow_putObj hrow _ hK rfl,hnil,hB.trans (belowK_b (w:=w) (Nat.le_refl _) W D _ _ (by simp at hD; omega) hK rfl rfl)⟩
 case stop=>
  rintro D c pre W _ _ h _;exact h.elim
theorem zIu (mb:Nat) (w:World):Calls Tryz.prog 128 #[.map (some mb)] w fun e w'=>e=.returned (.func (.func 195) #[] #[.pointer (some ⟨w.heap.size,0,none⟩)])∧w'=w.alloc (.cells #[.map (some mb)] 140):=by
 go_enter Tryz.func128,Tryz.ntmps128
 go_wp2_with fail
 go_ret
 exact ⟨rfl,rfl⟩
def zMb (L:List (ByteArray × Value)) (w:World) (e:Ending) (w':World):Prop:=
 ∃(v:Value) (ss:List ByteArray),e=.returned v∧ss.Perm (L.map (·.1))∧w'.ownsRow w.heap.size 9 1 v ss.length (ss.flatMap vV)∧(v=.slice none 0 0↔ss=[])∧Below w.heap.size w w'
theorem zIv (Bm b:Nat) (L:List (ByteArray × Value)) (w:World) (hBm:Bm < w.heap.size) (hm:w.cell? ⟨Bm,0,none⟩=some (.map (some b))) (ht:xT jF w b L) (hlen:L.length≤10000):
  Calls Tryz.prog 193 #[.func (.func 195) #[] #[.pointer (some ⟨Bm,0,none⟩)]] w (zMb L w):=by
 have hcall:=callsIn_wide.1 (zMa Bm b L w hBm hm ht hlen);have HC:=zz hcall;clear hcall hm ht;go_enter Tryz.func193,Tryz.ntmps193
 go_wp2_with fail
 refine HC.out.mono ?_;rintro e w' ⟨v,ss,rfl,h1,h2,h3,h4⟩;have H1:=zz h1;have H2:=zz h2;have H3:=zz h3;have H4:=zz h4;clear h1 h2 h3 h4;go_wp2_with fail
 go_ret
 exact ⟨v,ss,rfl,H1.out,H2.out,H3.out,H4.out⟩
def zSa (l:List UInt8):ByteArray:=⟨l.toArray⟩
theorem zYj (s:ByteArray):zSa s.data.toList=s:=zDw (by simp [zSa])
def vt (x y:List UInt8):Bool:=decide (x≤y)
def uc (ns:List ByteArray):List ByteArray:=((ns.map fun s=>s.data.toList).mergeSort vt).map zSa
theorem kQ (ns:List ByteArray):(uc ns).Perm ns:=by
 have h:=(List.mergeSort_perm (ns.map fun s=>s.data.toList) vt).map zSa;rw [List.map_map] at h;have e:ns.map (zSa ∘ fun s=>s.data.toList)=ns:=by
  rw [show (zSa ∘ fun s:ByteArray=>s.data.toList)=id from funext zYj,List.map_id]
 rw [e] at h;exact h
theorem zHv (a b c:List UInt8) (h1:vt a b=true) (h2:vt b c=true):vt a c=true:=by
 unfold vt at *;simp only [decide_eq_true_eq] at *;exact List.le_trans h1 h2
theorem zHw (a b:List UInt8):(vt a b || vt b a)=true:=by
 unfold vt;simp only [Bool.or_eq_true,decide_eq_true_eq];exact List.le_total a b
theorem zYk (a b:List UInt8) (h1:vt a b=true) (h2:vt b a=true):a=b:=by
 unfold vt at *;simp only [decide_eq_true_eq] at *;exact List.le_antisymm h1 h2
theorem zYl {a b:List (List UInt8)} (h:a.Perm b):a.mergeSort vt=b.mergeSort vt:=by
 have h1:=List.pairwise_mergeSort (le:=vt) zHv zHw a;have h2:=List.pairwise_mergeSort (le:=vt) zHv zHw b;exact List.Perm.eq_of_pairwise (fun x y _ _ hx hy=>zYk x y hx hy) h1 h2 ((List.mergeSort_perm a vt).trans (h.trans (List.mergeSort_perm b vt).symm))
theorem zPe {a b:List ByteArray} (h:a.Perm b):uc a=uc b:=by
 unfold uc;rw [zYl (h.map _)]
def zFb (ns:List ByteArray) (w:World) (e:Ending) (w':World):Prop:=
 ∃v,e=.returned v∧w'.ownsRow w.heap.size 9 1 v ns.length ((uc ns).flatMap vV)∧Fr (fun _=>False) w w'
theorem zPf (Bm b:Nat) (L:List (ByteArray × Value)) (w:World) (hm:w.cell? ⟨Bm,0,none⟩=some (.map (some b))) (ht:xT jF w b L) (hlen:L.length≤10000):
  Calls Tryz.prog 127 #[.func (.func 195) #[] #[.pointer (some ⟨Bm,0,none⟩)]] w (zFb (L.map (·.1)) w):=by
 have HC:=zz (zIv Bm b L w (World.block_lt_of_cell? w _ hm) hm ht hlen);clear hm ht;go_enter Tryz.func127,Tryz.ntmps127
 go_wp2_with fail
 refine HC.out.mono ?_;rintro e w1 ⟨v,ss,rfl,h1,h2,h3,h4⟩;have hl:ss.length=(L.map (·.1)).length:=h1.length_eq;have F1:=zz (Fr.of_below (S:=fun _=>False) h4 (Nat.le_refl _));have hss:ss.flatMap vV=(ss.map fun s=>s.data.toList).map encStr:=by
  rw [List.map_map];clear h1 h2 h3 h4 hl
  induction ss with
  | nil=>rfl
  | cons a l ih=>rw [List.flatMap_cons,ih]; simp [vV,encStr]
 rcases h2.2 with ⟨hnil,hz⟩ | ⟨g,cap,cur,rfl,hbase,hb,e1,e2,e3,e4⟩
 ·subst hnil
  have hs0:ss=[]:=(h3.1 rfl);subst hs0;have hL:L.map (·.1)=[]:=by simpa using h1
  have H2:=zz h2;have HL:=zz hL;clear h1 h2 h3 h4 hl hss hz HC hL;go_wp2_with fail
  refine (Tryz.slices_Sort_string_none none 0 _).mono ?_;rintro e w2 ⟨rfl,rfl⟩;go_wp2_with fail
  go_ret
  exact ⟨.slice none 0 0,rfl,by rw [HL.out,show uc []=[] by simp [uc]]; exact World.ownsRow_nil _ _ _ _,F1.out⟩
 ·rw [hss] at e4
  have hh:Go.Sort.Holds encStr w1 g 0 (ss.map fun s=>s.data.toList).toArray:=holds_of_block hb (by rw [List.length_map]; simpa using e4);have hsl:=Tryz.slices_Sort_string g 0 cap (ss.map fun s=>s.data.toList) w1 hh (zA hb) (by rw [List.length_map,hl,List.length_map]; omega);rw [List.length_map] at hsl;have HS:=zz hsl;have hp:uc ss=uc (L.map (·.1)):=zPe h1;have HP:=zz hp;have HB:=zz hb;have HL:=zz hl;clear hsl hh hss h1 h2 h3 h4 HC hp hb hl e4;go_wp2_with fail
  refine HS.out.mono ?_;rintro e w2 ⟨rfl,n,os,hw2⟩;have hown:=ownsRow_sorted (w:=w1) (base:=w.heap.size) (g:=g) (cap:=cap) (n:=n) (e:=9) (os:=os) (cur:=cur) (ss:=ss.map fun s=>s.data.toList) (ts:=(ss.map fun s=>s.data.toList).mergeSort fun x y=>decide (x≤y)) (by rw [List.length_mergeSort]) hbase HB.out (by rw [List.length_map]; exact e1) e2 e3;have hgr:=grownBy_sorted (w:=w1) (g:=g) (n:=n) (os:=os) ((ss.map fun s=>s.data.toList).mergeSort fun x y=>decide (x≤y)).toArray;rw [←hw2] at hown hgr;have F2:=zz (F1.out.grown hgr fun k e=>by cases e; exact .inr hbase);rw [List.length_map] at hown;have hcells:((ss.map fun s=>s.data.toList).mergeSort fun x y=>decide (x≤y)).map encStr=(uc (L.map (·.1))).flatMap vV:=by
   rw [←HP.out];unfold uc;rw [show (fun x y:List UInt8=>decide (x≤y))=vt from rfl];generalize (ss.map fun s=>s.data.toList).mergeSort vt=z
   induction z with
   | nil=>rfl
   | cons a l ih=>rw [List.map_cons,ih]; simp [vV,encStr,zSa]
  rw [hcells,HL.out] at hown;have HO:=zz hown;clear hown hgr hw2 hcells HS;go_wp2_with fail
  go_ret
  exact ⟨.slice (some ⟨g,0,none⟩) (L.map (·.1)).length cap,by rw [HL.out]; rfl,HO.out,F2.out⟩
section
variable {w w':World} {S:Nat→Prop} {tb mb:Nat} {next:Int} {L:List (ByteArray × Value)}
section
variable {K:Type} [DecidableEq K] {q:KK K} {ops:Array Oper} {rest:List Oper} {o:Oper} {a:Act} {Q:Exit→Act→World→Prop}
theorem zHx (L:List (K × Value)) (k k':K):zk (vZ L k) k'=if k'=k then none else zk L k':=by
 have:=zEk L (fun x=>x≠k) k'
 unfold vZ;rw [this];by_cases e:k'=k <;> simp [e]
theorem xT.del (Q:zBd q) {w w':World} {b n:Nat} {L:List (K × Value)} {D:DataW Value} (h0:zBe q L) (h1:w.ownsMap Tryz.prog q.kt kZ b n D) (h2:Maps.size D=L.length)
  (h3:∀k:K,q.ok k→∀z,D.atKey (q.kl k) z=match zk L k with | some a=>.held a | none=>z) {k:K} (hk:q.ok k)
  {m:Nat} (h4:w'.ownsMap Tryz.prog q.kt kZ b m (D.del (q.kl k))):xT q w' b (vZ L k):=by
 refine ⟨zDn h0 k,_,zGd h4,?_,fun k' hk' z=>?_⟩
 ·have e1:=size_del (k:=q.kl k) (h1.tidy Q.keyed)
  rw [xT.has h3 hk] at e1
  have:=zEl h0.nodup k
  omega
 ·rw [zHx]
  by_cases e:k'=k
  ·subst e
   rw [atKey_del_same]; simp
  ·rw [atKey_del_other (fun h=>e (Q.inj _ _ hk' hk h)),h3 k' hk',if_neg e]
   rfl
theorem zFc (ql:zBd q) (w:World) (hg:o.guard=none) (mt et:TypeId) (ht:Tryz.prog.underlying mt=some (.map q.kt et)) (m x:Operand) (hop:o.op=Op.call { callee:=Callee.builtin Builtin.delete,args:=#[m,x],argTypes:=#[mt,q.kt] }) (b:Nat) (L:List (K × Value)) (hm:a.eval m=.map (some b)) (hM:xT q w b L)
  (k:K) (hx:a.eval x=q.kv k) (hk:q.ok k)
  (hK:∀w',xT q w' b (vZ L k)→w.grownBy w' (some b)→wpList Tryz.prog ops Q rest (a.put o.dst (.tuple #[])) w'):wpList Tryz.prog ops Q (o::rest) a w:=by
 obtain ⟨h0,D,h1,h2,h3⟩:=hM;exact wpList_delete_own w hg m x mt q.kt hop et ql.keyed ht kZ b _ D hm h1 (q.kv k) _ hx (ql.key k hk) fun w' h7 h8=>hK w' (xT.del ql h0 h1 h2 h3 hk h7) h8.grown
end
theorem zPg (h:uR w tb mb next L) (hL:L.length≤10000):Calls Tryz.prog 74 #[.pointer (some ⟨tb,0,none⟩)] w (zFb (L.map (·.1)) w):=by
 have c1:=(zB h.b 1).trans (show _=some (Value.map (some mb)) from rfl);have fa:=(Fr.same w).alloc (.cells #[.map (some mb)] 140);have SW:=zz (zPf w.heap.size mb L (w.alloc (.cells #[.map (some mb)] 140)) (zD w #[.map (some mb)] 140 0) (h.m.fr fa fun h=>h) hL);have KW:=zz (zIu mb w);have FA:=zz fa;clear h fa;go_enter Tryz.func74,Tryz.ntmps74
 go_wp2_with fail
 refine KW.out.mono ?_;rintro e w1 ⟨rfl,rfl⟩;clear KW c1;go_wp2_with fail
 refine SW.out.mono ?_;rintro e w2 ⟨v,rfl,ho,f2⟩;have OW:=zz (vp ho FA.out.size);have F2:=zz (FA.out.tr f2);clear ho f2 SW;go_wp2_with fail
 go_ret
 exact ⟨_,rfl,OW.out,F2.out⟩
def partV (v:Value):Int:=match v with | .agg a=>intOf (a.getD 1 undef) | _=>0
theorem zYm (i p:Int):partV (yq i p)=p:=rfl
def ud (L:List (ByteArray × Value)):List (ByteArray × Int):=(uc (L.map (·.1))).map fun n=>(n,partV ((zk L n).getD (yq 0 0)))
theorem zKn (L:List (ByteArray × Value)):(ud L).length=L.length:=by
 unfold ud;rw [List.length_map,(kQ _).length_eq,List.length_map]
theorem info160:(Tryz.prog.info? 160).map (fun i=>(i.zero,i.size,i.bytes))=some (some (.agg #[.string ByteArray.empty,.int .i64 0]),2,24):=by kernel_rfl
theorem zPh (a b:Int) (w:World):(Instr.field 158 (.agg #[.int .i64 a,.int .i64 b]) 1).run Tryz.prog w=.ok (.int .i64 b) w:=by kernel_rfl
def zYn (L:List (ByteArray × Value)) (w:World) (e:Ending) (w':World):Prop:=∃v,e=.returned v∧w'.ownsRow w.heap.size 160 2 v (ud L).length ((ud L).flatMap jA)∧Fr (fun _=>False) w w'
theorem zHy (h:uR w tb mb next L) (hL:L.length≤10000):Calls Tryz.prog 36 #[.pointer (some ⟨tb,0,none⟩)] w (zYn L w):=by
 have NW:=zz (zPg h hL);have H:=zz h;have hlen:=zKn L;clear h;go_enter Tryz.func36,Tryz.ntmps36
 go_wp2_with fail
 refine NW.out.mono ?_;rintro e w1 ⟨v,rfl,ho,f1⟩;obtain ⟨ov,cv,hv,-,-⟩:=ze ho;have hsl:(uc (L.map (·.1))).length=L.length:=by rw [(kQ _).length_eq,List.length_map]
 rw [List.length_map] at ho hv;rw [←hsl] at ho hv;subst hv;have OW:=zz ho;have F1:=zz f1;have PM:=zz (fun n (hn:n∈uc (L.map (·.1)))=>List.mem_map.1 ((kQ _).mem_iff.1 hn));obtain ⟨ts,hts⟩:∃ts,ts=ud L:=⟨_,rfl⟩;have TT:=zz (show ts=(uc (L.map (·.1))).map fun n=>(n,partV ((zk L n).getD (yq 0 0))) from hts);have TS:=zz hts;clear ho f1 NW hts;generalize uc (L.map (·.1))=ns at *;have htl:ts.length=ns.length:=by rw [TT.out,List.length_map]
 clear hlen;go_wp2_with fail
 go_loopw [3,9] (fun x i wr=>∃k:Nat,i=.int .i64 k∧k≤ns.length∧wr.ownsRow w1.heap.size 160 2 x (ts.take k).length ((ts.take k).flatMap jA)∧Fr (fun _=>False) w wr∧Fr (fun _=>False) w1 wr) (fun _ i _=>ns.length - (intOf i).toNat)
 case atStart=>exact ⟨0,rfl,Nat.zero_le _,World.ownsRow_nil _ _ _ _,F1.out,Fr.same _⟩
 case round=>
  obtain ⟨k,rfl,hk,ho,hf,hf1⟩:=hrel;have FF:=zz hf;have FR:=zz hf1;have OX:=zz ho;obtain ⟨o3,c3,hv3,-,-⟩:=ze ho;rw [show (ts.take k).length=k by rw [List.length_take]; omega] at hv3;subst hv3;clear ho hf hf1;rcases Nat.lt_or_ge k ns.length with hlt | hge
  ·obtain ⟨n,hn⟩:=zH hlt
   obtain ⟨ov',cv',hsl2,hc⟩:=xz (zl OW.out fun j hj=>FR.out.block j (zK OW.out hj).2 fun h=>h);injection hsl2 with e1 _ e3
   subst e1 e3;obtain ⟨gv,rfl,-,-,hc⟩:=hc (by omega);have cn:=hc k _ (by have:=(xB vV 1 zLr hn (j:=0) (by omega)).trans (show _=some (Value.string n) from rfl); simpa using this);obtain ⟨r,hr,hrn⟩:=PM.out n (List.mem_of_getElem? hn);obtain ⟨i,p,hrv⟩:=H.out.el r hr;have hgn:zk L n=some (yq i p):=zPc H.out.m.1.nodup (by rw [←hrn,←hrv]; exact hr);have htk:ts[k]?=some (n,p):=by rw [TT.out,List.getElem?_map,hn]; simp [hgn,zYm]
   have HA:=H.out.old FF.out;have hlk:=HA.m.look1 vz Tryz.underlying140 (zTc wr) (k:=n) (by rw [←hrn]; exact H.out.m.1.ok r hr);rw [hgn] at hlk;dsimp only [jF,Option.getD,yq] at hlk;have c1:=(zB HA.b 1).trans (show _=some (Value.map (some mb)) from rfl);have hfp:=zPh i p wr;have fb:=(Fr.same wr).alloc (.cells #[.string n,.int .i64 p] 160);have hcb:=fun j=>zD wr #[.string n,.int .i64 p] 160 j
   have OB:=zz (zl OX.out fun j hj=>fb.block j (zK OX.out hj).2 fun h=>h);have FB:=zz (FF.out.tr fb);have FR2:=zz (FR.out.tr fb);have HCB:=zz hcb;have HTK:=zz htk;clear hn hc hr hrn hrv hgn htk HA fb hcb;go_wp2_with (at_builtin; refine yI jA 2 vN (by decide) 28 160 _ 24 info160 rfl (by decide) Tryz.underlying28 _ rfl (.tmp 13) (.tmp 23) rfl w1.heap.size (.slice o3 k c3) (ts.take k) rfl OB.out wr.heap.size 1 rfl (n,p) HCB.out ?c1 ?c2 ?c3 ?_)
   case c1=>intro u hu; simp only [jA,List.mem_cons,List.not_mem_nil,or_false] at hu; rcases hu with rfl | rfl <;> rfl
   case c2=>first | omega | (rw [List.length_take]; omega)
   case c3=>first | exact FR2.out.size | (have:=FR2.out.size; simp at this; omega)
   rintro v' w2 ⟨ho,hg,hb⟩;rw [show ts.take k++ [(n,p)]=ts.take (k+1) by rw [List.take_add_one,HTK.out]; rfl] at ho;have O3:=zz ho;have F3:=zz (FB.out.grown hg fun j hj=>.inr (Nat.le_trans F1.out.size (zK OB.out hj).1));have F4:=zz (show Fr (fun _=>False) w1 w2 from FR2.out.grown hg fun j hj=>.inr (zK OB.out hj).1);clear ho hg hb;go_wp2_with fail
   go_roundw
   case rel=>exact ⟨k+1,by go_num,by omega,O3.out,F3.out,F4.out⟩
   case measure=>simp [intOf]; omega
  ·obtain rfl:k=ns.length:=by omega
   go_wp2_with fail
   go_ret
   have h9:=OX.out;rw [List.take_of_length_le (by omega)] at h9;rw [TS.out] at h9;exact ⟨_,rfl,vp h9 F1.out.size,FF.out⟩
def TDelPost (L:List (ByteArray × Value)) (k:ByteArray) (tb mb:Nat) (next:Int) (w:World) (e:Ending) (w':World):Prop:=
 (∃i p,zk L k=some (yq i p)∧e=.returned (.tuple #[.int .i64 i,.int .i64 0])∧uR w' tb mb next (vZ L k)∧Fr (fun i=>i=mb) w w')
 ∨(zk L k=none∧e=.returned (.tuple #[.int .i64 0,.int .i64 6])∧Fr (fun _=>False) w w')
theorem zMc (h:uR w tb mb next L) (k:ByteArray) (hk:k.size≤maxLen):Calls Tryz.prog 72 #[.pointer (some ⟨tb,0,none⟩),.string k] w (TDelPost L k tb mb next w):=by
 have FW:=zz (zGn h k hk);have H:=zz h;have HK:=zz hk;clear h hk;go_enter Tryz.func72,Tryz.ntmps72
 go_wp2_with fail
 refine FW.out.mono ?_;rintro e w2 ⟨hcase,f2⟩;have H2:=zz (H.out.old f2);have F2:=zz f2;have c1:=(zB H2.out.b 1).trans (show _=some (Value.map (some mb)) from rfl);clear f2 FW;rcases hcase with ⟨i,p,hg,rfl⟩ | ⟨hg,rfl⟩
 ·have HG:=zz hg
  clear hg;go_wp2_with (at_delete; refine zFc vz _ rfl 140 158 Tryz.underlying140 (.tmp 21) (.tmp 22) rfl mb L rfl H2.out.m k rfl HK.out ?_)
  intro w5 hm5 hg5;have f5:Fr (fun i=>i=mb) w2 w5:=(Fr.refl (fun i=>i=mb) w2).grown hg5 fun x e=>.inl (by cases e; rfl)
  have T5:=zz (show uR w5 tb mb next (vZ L k) from ⟨(f5.block tb (zA H2.out.b) H2.out.ne).trans H2.out.b,hm5,H2.out.ne,fun r hr=>H2.out.el r (List.mem_filter.1 hr).1⟩);have F5:=zz ((F2.out.mono (S':=fun i=>i=mb) fun _ h=>h.elim).trans f5 fun i e=>.inl e);clear hm5 hg5 f5;go_wp2_with fail
  go_ret2
  exact .inl ⟨i,p,HG.out,rfl,T5.out,F5.out⟩
 ·have HG:=zz hg
  clear hg;go_wp2_with fail
  go_ret2
  exact .inr ⟨HG.out,rfl,F2.out⟩
theorem zPi {B:Nat} {v:Value} {l:List (ByteArray × Int)} (h:w.ownsRow B 160 2 v l.length (l.flatMap jA)):jq w v l:=by
 obtain ⟨oa,cap,hv,hc⟩:=xz h;refine ⟨oa,cap,hv,fun i z hz=>?_⟩;obtain ⟨g,rfl,-,-,hc⟩:=hc (by have:=(List.getElem?_eq_some_iff.1 hz).1; omega);exact ⟨g,rfl,hc _ _ ((xB jA 2 vN hz (j:=0) (by omega)).trans rfl),hc _ _ ((xB jA 2 vN hz (j:=1) (by omega)).trans rfl)⟩
end
section
variable {w w':World} {S K:Nat→Prop}
def yE:Array Value:=#[.int .i64 0,.int .i64 0,.int .i64 0,.int .i64 0,.int .i64 0,.int .i64 0,.int .i64 0,.slice none 0 0,.slice none 0 0,.slice none 0 0]
theorem zBk (w:World) (q:Req) (rv kv tv:Value):∃w1,w1=(w.alloc (.cells (zT q rv kv tv) 41)).alloc (.cells yE 31)∧Fr (fun _=>False) w w1∧w1.heap[w.heap.size]?=some (.cells (zT q rv kv tv) 41 (0,0))∧w1.heap[w.heap.size+1]?=some (.cells yE 31 (0,0)):=by
 have s1:(w.alloc (.cells (zT q rv kv tv) 41)).heap.size=w.heap.size+1:=by simp
 have x1:=zC (w.alloc (.cells (zT q rv kv tv) 41)) (.cells yE 31);rw [s1] at x1;exact ⟨_,rfl,((Fr.same w).alloc _).alloc _,(zF (.cells yE 31) (zA (zC w (.cells (zT q rv kv tv) 41)))).trans (zC w _),x1⟩
theorem jT.start {d:zR} (h:jT w d) (x:Int):jT (w.setCell ⟨d.xb,0,none⟩ (.int .i64 x)) { d with st:=x } ∧Fr (fun i=>i=d.xb) w (w.setCell ⟨d.xb,0,none⟩ (.int .i64 x)):=by
 have f:Fr (fun i=>i=d.xb) w (w.setCell ⟨d.xb,0,none⟩ (.int .i64 x)):=(Fr.refl (fun i=>i=d.xb) w).setCell (p:=⟨d.xb,0,none⟩) (.inl rfl) _;exact ⟨⟨(zE h.b (o:=0) (.int .i64 x)).trans rfl,vJ h.own f (fun k hk e=>h.x1 (by rw [hk,e])) fun k hk e=>h.x2 (by rw [←e]; exact hk),h.prod.fr f fun i hi e=>h.x3 (by rw [←e]; exact hi),fun i hi=>⟨(h.lt i hi).1,Nat.lt_of_lt_of_le (h.lt i hi).2 f.size⟩,h.x1,h.x2,h.x3,h.s1,h.s2⟩,f⟩
def zPj (d:zR) (x:Int) (w:World) (e:Ending) (w':World):Prop:=
 (¬(d.st≤x∧x≤d.en)∧e=.returned (xC 12 0)∧Fr (fun _=>False) w w')
 ∨((d.st≤x∧x≤d.en)∧e=.returned (xC 0 0)∧jT w' { d with st:=x } ∧Fr (fun i=>i=d.xb) w w')
theorem zYo {d:zR} (h:jT w d) (q:Req) (rv kv tv:Value):Calls Tryz.prog 40 #[.pointer (some ⟨d.xb,0,none⟩),.agg (zT q rv kv tv)] w (zPj d q.from' w):=by
 obtain ⟨w1,hw1,f1,x0,x1⟩:=zBk w q rv kv tv;have F1:=zz f1;have X1:=zz x1;have P1:=zz (h.old f1);have XL:=zz (fun i hi=>(h.lt i hi).2);have IN:=zz (zEq d.xb d.st d.en q.from' w1 ((zB P1.out.b 0).trans rfl) ((zB P1.out.b 1).trans rfl));unfold zT at x0 hw1 ⊢;unfold yE at hw1;have d0:=fun j=>zB x0 j
 have D1:=zz (fun j=>zB x0 j);rw [hw1] at d0;clear h f1 x0 x1;go_enter Tryz.func40,Tryz.ntmps40
 go_wp2_with fail
 rw [←hw1];clear d0 hw1;by_cases hin:d.st≤q.from'∧q.from'≤d.en
 ·rw [decide_eq_true hin] at IN
  have HIN:=zz hin;refine IN.out.mono ?_;rintro e w3 ⟨rfl,hw3⟩;obtain rfl:=hw3.symm;have d1:=D1.out;have db:=zB P1.out.b 0;have dz:=zd P1.out.b 0;obtain ⟨g3,f3⟩:=P1.out.start q.from';have G3:=zz g3;have F3:=zz f3;have X3:=zz ((f3.block _ (zA X1.out) (fun e=>by have:=XL.out d.xb (.inl rfl); omega)).trans X1.out);clear g3 f3 hin IN;go_wp2_with fail
  refine (yB 0 _).mono ?_;rintro e w8 ⟨rfl,hf8⟩;have X8:=(hf8.block _ (zA X3.out) fun h=>h).trans X3.out;have R9:=setRow_heap w8 (w.heap.size+1) _ (zS 0 0 0 0 0 0 0 (.slice none 0 0) (.slice none 0 0) (.slice none 0 0)) 31 (0,0) X8;have FN:=zz (zZ ((Fr.same w8).mono (S':=fun i=>i=w.heap.size+1) fun _ h=>h.elim) (g:=w.heap.size+1) (.inl rfl) (zS 0 0 0 0 0 0 0 (.slice none 0 0) (.slice none 0 0) (.slice none 0 0)));have F8:=zz hf8;clear hf8;go_wp2_with (refine zJ rfl _ _ rfl (w.heap.size+1) 0 0 rfl rfl _ X8 rfl ?_)
  try simp only [Exit.inBlock,Exit.then]
  refine bodyPost_ret (results_cell_row rfl _ _ (w.heap.size+1) 31 _ (0,0) _ rfl R9 Tryz.underlying31 rfl (by kernel_rfl)) rfl ?_;exact .inr ⟨HIN.out,rfl,(G3.out.old F8.out).fr FN.out fun i hi e=>(by have:=XL.out i hi; omega),(((F1.out.mono (S':=fun i=>i=d.xb) fun _ h=>h.elim).trans F3.out fun i e=>.inl e).trans F8.out fun _ h=>h.elim).trans FN.out fun i e=>.inr (by omega)⟩
 ·rw [decide_eq_false hin] at IN
  have HIN:=zz hin;refine IN.out.mono ?_;rintro e w3 ⟨rfl,hw3⟩;obtain rfl:=hw3.symm;have X3:=X1;clear hin IN;go_wp2_with fail
  refine (yh 0 12 (by decide) _).mono ?_;rintro e w8 ⟨rfl,hf8⟩;have X8:=(hf8.block _ (zA X3.out) fun h=>h).trans X3.out;have R9:=setRow_heap w8 (w.heap.size+1) _ (zS 12 0 0 0 0 0 0 (.slice none 0 0) (.slice none 0 0) (.slice none 0 0)) 31 (0,0) X8;have FN:=zz (zZ ((Fr.same w8).mono (S':=fun i=>i=w.heap.size+1) fun _ h=>h.elim) (g:=w.heap.size+1) (.inl rfl) (zS 12 0 0 0 0 0 0 (.slice none 0 0) (.slice none 0 0) (.slice none 0 0)));have F8:=zz hf8;clear hf8;go_wp2_with (refine zJ rfl _ _ rfl (w.heap.size+1) 12 0 rfl rfl _ X8 rfl ?_)
  try simp only [Exit.inBlock,Exit.then]
  refine bodyPost_ret (results_cell_row rfl _ _ (w.heap.size+1) 31 _ (0,0) _ rfl R9 Tryz.underlying31 rfl (by kernel_rfl)) rfl ?_;exact .inl ⟨HIN.out,rfl,(F1.out.tr F8.out).trans FN.out fun i e=>.inr (by omega)⟩
def vu (st frm:Int):List Bat→Option Int
 | []=>none
 | b::l=>if b.base+b.span≤st then vu st frm l else if (b.recs.any fun r=>decide (frm≤r.tm))=true then some (max b.base st) else vu st frm l
def zKo (d:zR) (frm:Int):Int:=(vu d.st frm d.bats).getD d.en
def zPk (d:zR) (frm:Int) (w:World) (e:Ending) (w':World):Prop:=e=.returned (xC 0 (zKo d frm))∧Fr (fun _=>False) w w'
end
end Go.Proofs.YtfdhofabgdkkkaaGreatDoor

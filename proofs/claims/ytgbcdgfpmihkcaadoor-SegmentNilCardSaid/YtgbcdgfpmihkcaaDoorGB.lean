/- live: the document's example answers. -/
import Derived.Test.YtgbcdgfpmihkcaaDoorGA
namespace Go.Proofs.YtgbcdgfpmihkcaaDoor
open Go.RowKit Go.Fm Go.BigFrame Go.Shelf Go.Maps
set_option linter.unusedVariables false
set_option linter.unusedSimpArgs false
set_option maxRecDepth 100000

def F0 : ByteArray → ByteArray × Nat := fun _ => (ByteArray.empty, 0)
theorem updF_upd (F : ByteArray → ByteArray × Nat) (nm : ByteArray) (a b : ByteArray) (m n : Nat) : updF (updF F nm a m) nm b n = updF F nm b n := funext fun x => by
  unfold updF; split <;> rfl
theorem getL_one (nm : ByteArray) (fb : Nat) : getL [(nm, fb)] nm = some fb := by simp [getL]
theorem noBat_empty : NoBat ByteArray.empty 0 := noBat_torn (.none (by decide) (by decide)) (by decide)
theorem scan_empty (e : Int) : Scan ByteArray.empty 0 e [] 0 := .stop 0 e noBat_empty (by decide)
theorem extract_all (s : ByteArray) : s.extract 0 s.size = s := bytes_ext (by rw [extract_list, List.drop_zero, List.take_of_length_le (by rw [size_list]; exact Nat.le_refl _)])
/-- The bytes of the first batch, and some of the second one's. -/
def ex5 : ByteArray := batS (exB 5)
def ex6 : ByteArray := batS (exB 6)
def exT : ByteArray := (ex5 ++ ex6).extract 0 (ex5.size + 9)
theorem ex_sizes : 14 ≤ ex5.size ∧ ex5.size ≤ 3068 ∧ 14 ≤ ex6.size ∧ ex6.size ≤ 3068 :=
  ⟨(exB_bsz (n := 5) (by omega) (by omega)).1, (exB_bsz (n := 5) (by omega) (by omega)).2, (exB_bsz (n := 6) (by omega) (by omega)).1, (exB_bsz (n := 6) (by omega) (by omega)).2⟩
theorem exT_list : exT.data.toList = ex5.data.toList ++ ex6.data.toList.take 9 := by
  unfold exT
  rw [extract_list, List.drop_zero, append_list, List.take_append, size_list, List.take_of_length_le (by rw [size_list]; omega)]
  congr 2
  omega
theorem exT_size : exT.size = ex5.size + 9 := by
  have h := congrArg List.length exT_list
  have := ex_sizes
  rw [size_list, List.length_append, List.length_take, size_list, size_list] at h
  omega
theorem exT_scan : Scan exT 0 5 [exB 5] ex5.size := by
  have hs := ex_sizes
  have ht := exT_size
  have h5 : BatIs exT 0 (exB 5) := batIs_of (rest := ex6.data.toList.take 9) (exB_ok (by omega) (by omega)) ⟨Nat.zero_le _, by rw [List.drop_zero, exT_list]; rfl⟩
  have hp : Pt exT ex5.size (ex6.data.toList.take 9) := ⟨by omega, by rw [exT_list, List.drop_append_of_le_length (by rw [size_list]; exact Nat.le_refl _), ← size_list, List.drop_length, List.nil_append]⟩
  have h6 : Torn exT ex5.size := torn_of (b := exB 6) (exB_ok (by omega) (by omega)) hp (List.take_prefix _ _) (by
    rw [List.length_take]
    show min 9 ex6.data.toList.length < ex6.size
    omega)
  have e : 0 + bsz (exB 5) = ex5.size := by rw [Nat.zero_add]; rfl
  refine .next 0 5 (exB 5) [] ex5.size (exB_ok (by omega) (by omega)) h5 (by show (5 : Int) ≤ 5; omega) ?_
  rw [e]
  exact .stop _ _ (noBat_torn h6 (by omega)) (by omega)
def exS0 : Seg := ⟨5, 10, []⟩
def exS1 : Seg := ⟨5, 10, [exB 5]⟩
def exS2 : Seg := ⟨5, 10, [exB 5, exB 6]⟩
theorem exS1_end : exS1.end' = 6 := rfl
theorem exS2_end : exS2.end' = 7 := rfl
theorem code0 {s : Seg} {b : Bat} {room used fuse : Int} (hb : BatOK b) (he : s.end' ≤ b.base) (hf : fuse ≠ 0) (hr : used + bsz b ≤ room) : apCode s b room used fuse = 0 := by
  unfold apCode
  rw [if_pos ⟨hb, he⟩]
  unfold appCode
  rw [if_neg hf, if_neg (by omega)]
theorem code1 {s : Seg} {b : Bat} {room used fuse : Int} (he : b.base < s.end') : apCode s b room used fuse = 1 := by
  unfold apCode
  rw [if_neg (fun h => by have := h.2; omega)]
/-- A disk that has at most one file. -/
structure Disk1 (w0 w : World) (db mb : Nat) (nm : ByteArray) (room : Int) (t : ByteArray) (m : Nat) (fuse : Int) (L : List Row) : Prop where
  kind : (L = [] ∧ t = ByteArray.empty ∧ m = 0) ∨ ∃ fb, L = [(nm, fb)]
  dk : Dk w db mb room t.size fuse L (updF F0 nm t m)
  new : ∀ i, DkS db mb L i → w0.heap.size ≤ i
  mle : m ≤ t.size
  sz : (t.size : Int) ≤ room
  rm : room ≤ 4194304
  fw : (Lit.int .i64 fuse).wf = true
/-- A segment, and its disk, apart; both are the call's own. -/
structure SD (w0 w : World) (sb db mb : Nat) (nm : ByteArray) (s : Seg) (room : Int) (t : ByteArray) (m : Nat) (fuse : Int) (L : List Row) (S : Nat → Prop) : Prop where
  sg : Sg w0.heap.size w sb db nm s S
  dk : Disk1 w0 w db mb nm room t m fuse L
  ap : ∀ i, S i → ¬ DkS db mb L i
  lt : ∀ i, S i → w0.heap.size ≤ i ∧ i < w.heap.size
  fr : Fr (fun _ => False) w0 w
section
variable {w0 w w' : World} {sb db mb : Nat} {nm : ByteArray} {s : Seg} {room : Int} {t : ByteArray} {m : Nat} {fuse : Int} {L : List Row} {S : Nat → Prop}
theorem Disk1.old (h : Disk1 w0 w db mb nm room t m fuse L) (hf : Fr (fun _ => False) w w') : Disk1 w0 w' db mb nm room t m fuse L := ⟨h.kind, h.dk.old hf, h.new, h.mle, h.sz, h.rm, h.fw⟩
theorem SD.old (h : SD w0 w sb db mb nm s room t m fuse L S) (hf : Fr (fun _ => False) w w') : SD w0 w' sb db mb nm s room t m fuse L S :=
  ⟨h.sg.old hf, h.dk.old hf, h.ap, fun i hi => ⟨(h.lt i hi).1, Nat.lt_of_lt_of_le (h.lt i hi).2 hf.size⟩, h.fr.tr hf⟩
theorem Disk1.ok (h : Disk1 w0 w db mb nm room t m fuse L) : DkOK room t.size fuse L (updF F0 nm t m) := by
  have h1 := h.sz
  have h2 := h.rm
  refine ⟨by omega, by omega, h.fw, fun r hr => ?_⟩
  rcases h.kind with ⟨rfl, -⟩ | ⟨fb, rfl⟩
  · cases hr
  · rw [List.mem_singleton.1 hr, updF_same]
    exact ⟨by dsimp only; omega, h.mle⟩
theorem Disk1.cur (h : Disk1 w0 w db mb nm room t m fuse L) : curF L (updF F0 nm t m) nm = (t, m) := by
  unfold curF
  rcases h.kind with ⟨rfl, rfl, rfl⟩ | ⟨fb, rfl⟩
  · simp [getL]
  · rw [getL_one, updF_same]
theorem Disk1.le (h : Disk1 w0 w db mb nm room t m fuse L) : ∀ r ∈ L, ((updF F0 nm t m) r.1).1.size ≤ 4194304 := fun r hr => by
  have h1 := h.sz
  have h2 := h.rm
  rcases h.kind with ⟨rfl, -⟩ | ⟨fb, rfl⟩
  · cases hr
  · rw [List.mem_singleton.1 hr, updF_same]
    dsimp only; omega
theorem Disk1.len (h : Disk1 w0 w db mb nm room t m fuse L) : L.length < 1000 := by
  rcases h.kind with ⟨rfl, -⟩ | ⟨fb, rfl⟩ <;> simp
theorem burn_wf (h : (Lit.int .i64 fuse).wf = true) : (Lit.int .i64 (burn fuse)).wf = true := by
  unfold burn
  simp [Lit.wf, IntKind.min, IntKind.max, IntKind.signed, IntKind.bits] at h ⊢
  split <;> omega
def App1Post (w0 w : World) (sb db mb : Nat) (nm : ByteArray) (s : Seg) (room : Int) (t : ByteArray) (m : Nat) (fuse : Int) (b : Bat) (e : Ending) (w' : World) : Prop :=
  e = .returned (.int .i64 (apCode s b room t.size fuse)) ∧ (apCode s b room t.size fuse = 0 → ∃ L' S', SD w0 w' sb db mb nm (s.push b) room (t ++ batS b) m (burn fuse) L' S') ∧ (apCode s b room t.size fuse ≠ 0 → Fr (fun _ => False) w w')
theorem apCode_room {s : Seg} {b : Bat} {room used fuse : Int} (h : apCode s b room used fuse = 0) : used + bsz b ≤ room := by
  unfold apCode at h
  split at h
  · unfold appCode at h
    split at h
    · cases h
    · split at h
      · cases h
      · omega
  · cases h
theorem append1 (h : SD w0 w sb db mb nm s room t m fuse L S) (h1 : 1 ≤ nm.size) (h2 : nm.size ≤ 40) (K : Nat → Prop) (hK : ∀ k, K k → ¬ DkS db mb L k) (b : Bat) (v : Value) (hr : RecsR K w v b.recs) (hst : StepsOK w0) (hn : s.l.length < 800) (hsum : sumB s.l ≤ 900000000) (hw0 : 1 ≤ w0.heap.size) :
    Calls Tryd.prog 8 #[.pointer (some ⟨sb, 0, none⟩), batV b v] w (App1Post w0 w sb db mb nm s room t m fuse b) := by
  refine (sappend_walk h.sg h.dk.dk h.dk.ok h.ap (fun i hi => (h.lt i hi).2) h1 h2 h.dk.len h.dk.rm h.dk.le K hK b v hr (hst.old h.fr) (fun i hi => ?_) hn hsum h.fr.size).mono ?_
  · rcases hi with hi | hi
    · have := (h.lt i hi).1; omega
    · have := h.dk.new i hi; omega
  · rintro e w' ⟨rfl, hok, hno⟩
    refine ⟨rfl, fun h0 => ?_, hno⟩
    have hroom := apCode_room h0
    obtain ⟨S', L', hsg, hdk, hl1, hl2, hap, hS, hD, hf⟩ := hok h0
    rw [h.dk.cur, updF_upd] at hdk
    dsimp only at hdk
    have hsz : ((t ++ batS b).size : Int) = (t.size : Int) + bsz b := by rw [ByteArray.size_append]; rfl
    rw [← hsz] at hdk
    refine ⟨L', S', hsg, ⟨?_, hdk, fun i hi => ?_, by rw [ByteArray.size_append]; have := h.dk.mle; omega, by omega, h.dk.rm, burn_wf h.dk.fw⟩, hap, fun i hi => ?_, ?_⟩
    · rcases h.dk.kind with ⟨rfl, -⟩ | ⟨fb, rfl⟩
      · obtain ⟨fb, e⟩ := hl2 rfl
        exact .inr ⟨fb, by rw [e]; rfl⟩
      · exact .inr ⟨fb, hl1 ⟨fb, getL_one nm fb⟩⟩
    · rcases hD i hi with h9 | h9
      · exact h.dk.new i h9
      · have := h.fr.size; omega
    · rcases hS i hi with h9 | h9
      · have := h.lt i h9; have := hf.size; exact ⟨by omega, by omega⟩
      · have := h.fr.size; exact ⟨by omega, by omega⟩
    · exact h.fr.trans hf fun i hi => .inr (by
        rcases hi with hi | hi
        · exact (h.lt i hi).1
        · exact h.dk.new i hi)
def Sync1Post (w0 w : World) (sb db mb : Nat) (nm : ByteArray) (s : Seg) (room : Int) (t : ByteArray) (m : Nat) (fuse : Int) (L : List Row) (S : Nat → Prop) (e : Ending) (w' : World) : Prop :=
  e = .returned (.int .i64 (if fuse = 0 then 7 else 0)) ∧ ∃ f, SD w0 w' sb db mb nm s room t (if fuse = 0 then m else t.size) f L S ∧ (f = fuse ∨ f = burn fuse)
theorem SD.keep (h : SD w0 w sb db mb nm s room t m fuse L S) (hf : Fr (DkS db mb L) w w') {m' : Nat} {f : Int} (hd : Dk w' db mb room t.size f L (updF F0 nm t m')) (hm : m' ≤ t.size) (hfw : (Lit.int .i64 f).wf = true) (hk : L = [] → m' = 0) : SD w0 w' sb db mb nm s room t m' f L S :=
  ⟨h.sg.fr hf h.ap, ⟨h.dk.kind.imp (fun ⟨a, b, _⟩ => ⟨a, b, hk a⟩) id, hd, h.dk.new, hm, h.dk.sz, h.dk.rm, hfw⟩, h.ap, fun i hi => ⟨(h.lt i hi).1, Nat.lt_of_lt_of_le (h.lt i hi).2 hf.size⟩, h.fr.trans hf fun i hi => .inr (h.dk.new i hi)⟩
theorem sync1 (h : SD w0 w sb db mb nm s room t m fuse L S) (h2 : nm.size ≤ 40) :
    Calls Tryd.prog 9 #[.pointer (some ⟨sb, 0, none⟩)] w (Sync1Post w0 w sb db mb nm s room t m fuse L S) := by
  refine (ssync_walk h.sg h.dk.dk h.dk.ok h2).mono ?_
  rintro e w' ⟨rfl, hok, hno, hf⟩
  by_cases h0 : fuse = 0
  · have hc : synCode fuse L nm = 7 := by unfold synCode; rw [if_pos h0]
    rw [hc] at hno ⊢
    refine ⟨by rw [if_pos h0]; rfl, fuse, ?_, .inl rfl⟩
    rw [if_pos h0]
    exact h.keep hf (hno (by omega)) h.dk.mle h.dk.fw fun e => by
      rcases h.dk.kind with ⟨-, -, h⟩ | ⟨fb, h⟩
      · exact h
      · rw [e] at h; cases h
  · rcases h.dk.kind with ⟨hL, ht, hm⟩ | ⟨fb, hL⟩
    · have hc : synCode fuse L nm = 6 := by unfold synCode; rw [if_neg h0, hL]; rfl
      rw [hc] at hno ⊢
      refine ⟨by rw [if_neg h0]; rfl, fuse, ?_, .inl rfl⟩
      rw [if_neg h0]
      have hz : t.size = m := by rw [ht, hm]; rfl
      rw [hz]
      exact h.keep hf (hno (by omega)) h.dk.mle h.dk.fw fun _ => hm
    · have hc : synCode fuse L nm = 0 := by unfold synCode; rw [if_neg h0, hL, getL_one]; rfl
      rw [hc] at hok ⊢
      have hd := hok rfl
      rw [updF_same, updF_upd] at hd
      refine ⟨by rw [if_neg h0]; rfl, burn fuse, ?_, .inr rfl⟩
      rw [if_neg h0]
      exact h.keep hf hd (Nat.le_refl _) (burn_wf h.dk.fw) fun e => by rw [hL] at e; cases e
def Open1Post (w0 : World) (db mb : Nat) (nm : ByteArray) (base every : Nat) (room : Int) (t : ByteArray) (m : Nat) (fuse : Int) (L : List Row) (l : List Bat) (q : Nat) (e : Ending) (w' : World) : Prop :=
  ∃ (sb : Nat) (S' : Nat → Prop) (f : Int), e = .returned (.tuple #[.pointer (some ⟨sb, 0, none⟩), .int .i64 0]) ∧ SD w0 w' sb db mb nm ⟨base, every, l⟩ room (t.extract 0 q) (min m q) f L S' ∧ (f = fuse ∨ f = burn fuse) ∧ (¬ q < t.size → f = fuse)
theorem open1 (h : Disk1 w0 w db mb nm room t m fuse L) (hfr : Fr (fun _ => False) w0 w) (hfu : fuse ≠ 0) (h1 : 1 ≤ nm.size) (h2 : nm.size ≤ 40) (base every : Nat) (hb : base ≤ 1099511627776) (he1 : 1 ≤ every) (he2 : every ≤ 1000000) (l : List Bat) (q : Nat) (hsc : Scan t 0 base l q) (hst : StepsOK w0) (hl : l.length ≤ 800) (hw0 : 1 ≤ w0.heap.size) :
    Calls Tryd.prog 6 #[.pointer (some ⟨db, 0, none⟩), .string nm, .int .i64 base, .int .i64 every] w (Open1Post w0 db mb nm base every room t m fuse L l q) := by
  have hsz := h.sz
  have hrm := h.rm
  have hw := hfr.size
  have hat := hsc.at'
  have key : ∀ e w', OpenPost w0.heap.size w db mb nm base every room t.size fuse L (updF F0 nm t m) t m l q e w' → Open1Post w0 db mb nm base every room t m fuse L l q e w' := by
    rintro e w' ⟨sb, S', rfl, hsg, hS, hd1, hd2, hf⟩
    have hap : ∀ i, S' i → ¬ DkS db mb L i := fun i hi hd => by have := (hS i hi).1; have := h.dk.lt hd; omega
    have hlt : ∀ i, S' i → w0.heap.size ≤ i ∧ i < w'.heap.size := fun i hi => ⟨Nat.le_trans hw (hS i hi).1, (hS i hi).2⟩
    have hfw : Fr (fun _ => False) w0 w' := hfr.trans hf fun i hi => .inr (h.new i hi)
    by_cases hq : q < t.size
    · have hd := hd1 hq
      rw [updF_upd] at hd
      have hes : (t.extract 0 q).size = q := by rw [ByteArray.size_extract]; omega
      have hu : ((t.extract 0 q).size : Int) = (t.size : Int) - ((t.size : Int) - (q : Int)) := by rw [hes]; omega
      rw [← hu] at hd
      refine ⟨sb, S', burn fuse, rfl, ⟨hsg, ⟨?_, hd, h.new, by omega, by omega, hrm, burn_wf h.fw⟩, hap, hlt, hfw⟩, .inr rfl, fun h => (h hq).elim⟩
      rcases h.kind with ⟨rfl, rfl, rfl⟩ | h
      · simp at hq
      · exact .inr h
    · have hqe : q = t.size := by omega
      have he : t.extract 0 q = t := by rw [hqe, extract_all]
      have hmn : min m q = m := by have := h.mle; omega
      exact ⟨sb, S', fuse, rfl, by rw [he, hmn]; exact ⟨hsg, ⟨h.kind, hd2 hq, h.new, h.mle, hsz, hrm, h.fw⟩, hap, hlt, hfw⟩, .inl rfl, fun _ => rfl⟩
  rcases h.kind with ⟨hL, ht, hm⟩ | ⟨fb, hL⟩
  · refine (sopen_none h.dk h.ok hfu nm h1 h2 base every hb he1 he2 (by rw [hL]; rfl) l q (by rw [← ht]; exact hsc) (hst.old hfr) hl hw (by omega)).mono fun e w' hp => key e w' ?_
    rw [ht, hm] at *
    exact hp
  · exact (sopen_some h.dk h.ok hfu nm h1 h2 base every hb he1 he2 (by rw [hL]; exact getL_one nm fb) t m (updF_same _ _ _ _) (by omega) l q hsc (hst.old hfr) hl hw (by omega)).mono fun e w' hp => key e w' hp
end
end Go.Proofs.YtgbcdgfpmihkcaaDoor

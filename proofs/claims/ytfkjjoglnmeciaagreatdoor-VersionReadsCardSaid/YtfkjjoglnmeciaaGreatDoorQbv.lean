/- The walks and laws that the claim leans on, part 48. -/
import Derived.Test.YtfkjjoglnmeciaaGreatDoorQbu
set_option maxRecDepth 100000
set_option maxHeartbeats 16000000
namespace Go.Proofs.YtfkjjoglnmeciaaGreatDoor
open Go.Lib (hid)
section
open Go.RowKit Go.Maps
theorem Reads.take_ {w:World} {B size n m:Nat} {A:Option Addr} {xs:List Value} (h:Reads w B size A n xs) (hm:m≤n):Reads w B size A m (xs.take (m * size)):=by
 obtain ⟨h1,h2⟩:=h;have h3:m * size≤n * size:=Nat.mul_le_mul_right _ hm;refine ⟨by rw [List.length_take];omega,fun hp=>?_⟩;obtain ⟨ad,e,hb,hc⟩:=h2 oM;refine ⟨ad,e,hb,fun j u hu=>hc j u ?_⟩;rw [List.getElem?_take] at hu;split at hu
 ·exact hu
 ·cases hu
structure AddM (B0 k:Nat) (z:HP) (st:Nat) (dl:Bool) (older g8 g9:Nat) (bl p:List Nat) (A10:Option Addr) (n10 c10:Nat) (Bb:Option Addr) (nb cb:Nat) (Dd:Option Addr) (nD cD:Nat) (w wx:World) (T1 N1:Nat) (cs1:Nat→CS) (f1:Nat→Option Nat) (S1:Fp) (cur1:Nat→Nat) (al1:List Nat):Prop where
 add:AddA k z dl bl p w wx T1 N1 cs1 f1 S1 cur1 al1
 own:wx.ownsRow w.heap.size 54 1 (.slice A10 n10 c10) n10 (uCells bl)
 v8:Blk wx g8 97 #[.int .u64 (st:Int), .bool dl, .int .u64 (bl.headD 0:Int), .int .u64 (older:Int)]
 v9:Blk wx g9 101 #[.int .u64 (st:Int), .bool dl, .int .u64 0, .slice Bb nb cb, .slice Dd nD cD]
 off:¬ sfp S1 z.x g8∧¬ sfp S1 z.x g9∧w.heap.size≤g8∧w.heap.size≤g9
 offk:∀ g,(Value.slice A10 n10 c10).ownBlock=some g→¬ sfp S1 z.x g∧g≠g8∧g≠g9
 rb:Reads wx wx.heap.size 1 Bb nb (uCells bl)
 rdd:Reads wx wx.heap.size 1 Dd nD (u8s p)
 ob:OffA S1 z.x wx Bb nb
 od:OffA S1 z.x wx Dd nD
 ne:∀ g,(Value.slice A10 n10 c10).ownBlock=some g→(0 < nb→∀ ad,Bb=some ad→ad.block≠g)∧(0 < nD→∀ ad,Dd=some ad→ad.block≠g)
 cdd:nD≤cD
 pb:∀ b∈p,b < 256
 pl:p.length≤500
 nb9:0 < nb→∀ ad,Bb=some ad→w.heap.size≤ad.block∧ad.block≠g9
 nd9:0 < nD→∀ ad,Dd=some ad→ad.block < B0
theorem infoRV:(Tryz.prog.info? 101).map (fun i=>(i.zero,i.size,i.bytes))=some (some (.agg #[.int .u64 0, .bool false, .int .u64 0, .slice none 0 0, .slice none 0 0]),5,72):=by kernel_rfl
theorem rvCells_one:∀ l:List RV,∀ u∈rvCells l,u.oneCell'=true:=fun l u hu=>by
 obtain ⟨r,_,hr⟩:=List.mem_flatMap.1 hu;unfold RV.cells at hr;simp only [List.mem_cons,List.not_mem_nil,or_false] at hr;rcases hr with rfl | rfl | rfl | rfl | rfl <;> rfl
theorem own_ad {A:Option Addr} {n c g:Nat} (h:(Value.slice A n c).ownBlock=some g):∃ ad,A=some ad∧ad.block=g:=by
 cases A with
 | none=>cases h
 | some ad =>
  refine ⟨ad,rfl,?_⟩;have h1:some ad.block=some g:=h;injection h1
theorem AddM.some_ {w0 w w10 w11 w12:World} {k gh:Nat} {rl:List RV} {vl:List VV} {z:HP} (hj:HsJ w0 k gh rl vl z w) {st older g8 g9 M cd q m' c' c12:Nat} {D A' A12:Option Addr} {p2 bl:List Nat} {cs2:Nat→CS} {f2:Nat→Option Nat} {S2:Fp} {cur2:Nat→Nat}
  (hB10:Below w.heap.size w w10) (hk8:Blk w10 g8 97 #[.int .u64 (st:Int), .bool false, .int .u64 0, .int .u64 (older:Int)]) (hk9:Blk w10 g9 101 #[.int .u64 (st:Int), .bool false, .int .u64 0, .slice none 0 0, .slice D M cd]) (hg:w.heap.size+1≤g8∧g8 < g9)
  (hD:Reads w0 w0.heap.size 1 D M (u8s p2)) (hp2:p2.length≤500) (hpb:∀ b∈p2,b < 256) (hMc:M≤cd) (hq:q=bl.headD 0) (hlen:bl.length=nBlk p2.length) (_hm:m'=bl.length) (had:∀ ad,A'=some ad→w10.heap.size≤ad.block∧¬ sfp S2 z.x ad.block) (hw2:W2 53 10 z.cs z.f z.cur z.al p2 cs2 f2 cur2 bl bl.length)
  (hsd:SD z.a 373 (z.T+3000) 53 (32 * 10) 10 z.x cs2 f2 (z.N+bl.length) (z.m+bl.length) z.b0 S2 cur2 w11 z.y.d z.y.r) (hch:Chg (sfp z.S z.x) w10 w11) (hgr:Grew z.S S2 w10) (hown:w11.ownsRow (w10.heap.size+2) 54 1 (.slice A' m' c') m' (uCells bl))
  (howr:w12.ownsRow w11.heap.size 32 1 (.slice A12 m' c12) m' (uCells bl)) (hb12:Below w11.heap.size w11 w12) :
  AddM w0.heap.size k z st false older g8 g9 bl p2 A' m' c' A12 m' c12 D M cd w ((w12.setCell ⟨g8,2,none⟩ (.int .u64 (q:Int))).setCell ⟨g9,3,none⟩ (.slice A12 m' c12)) (z.T+3000) (z.N+bl.length) cs2 f2 S2 cur2 (alW p2.length z.al (nBlk p2.length)):=by
 have hs10:=hB10.size;have hs11:=hch.size;have hs12:=hb12.size;have hl9:=hk9.lt;have hl8:=hk8.lt;have hSlt:∀ i,sfp S2 z.x i→i < w11.heap.size:=fun i hi=>sfp_lt hsd hi
 have hS2:∀ i,sfp S2 z.x i→sfp z.S z.x i∨w10.heap.size≤i:=fun i hi=>by
  rcases hi with e | e
  ·exact (hgr i e).imp .inl id
  ·exact .inl (.inr e)
 have hn8:¬ sfp S2 z.x g8:=fun h=>(hS2 g8 h).elim (hj.fresh oM) (fun h=>oM)
 have hn9:¬ sfp S2 z.x g9:=fun h=>(hS2 g9 h).elim (hj.fresh oM) (fun h=>oM)
 have hk8':=(hch.blk hk8 (hj.fresh oM)).below hb12 (by have:=(hch.blk hk8 (hj.fresh oM)).lt;exact this);have hk9':=(hch.blk hk9 (hj.fresh oM)).below hb12 (by have:=(hch.blk hk9 (hj.fresh oM)).lt;exact this);have hcw:Chg (sfp z.S z.x) w w12:=((Chg.of_below hB10).trans hch (fun i hi => .inl hi)).below hb12;have hz:Chg (fun i=>i=g8∨i=g9) w12 ((w12.setCell ⟨g8,2,none⟩ (.int .u64 (q:Int))).setCell ⟨g9,3,none⟩ (.slice A12 m' c12)):=((Chg.refl _ w12).setCell (p:=⟨g8,2,none⟩) (.inl (.inl rfl)) _).setCell (p:=⟨g9,3,none⟩) (.inl (.inr rfl)) _;have hcz:Chg (sfp z.S z.x) w ((w12.setCell ⟨g8,2,none⟩ (.int .u64 (q:Int))).setCell ⟨g9,3,none⟩ (.slice A12 m' c12)):=(hcw.setCell (p:=⟨g8,2,none⟩) (.inr (by show w.heap.size≤g8;omega)) _).setCell (p:=⟨g9,3,none⟩) (.inr (by show w.heap.size≤g9;omega)) _;have hb14:Below w0.heap.size w0 ((w12.setCell ⟨g8,2,none⟩ (.int .u64 (q:Int))).setCell ⟨g9,3,none⟩ (.slice A12 m' c12)):=hj.below.trans (hcz.toBelow hj.below.size hj.old);have hsd14:=(hsd.below hb12).chg (B:=w.heap.size) hj.bw.sd.lo hz (fun i hi=>by
  rcases hi with e | e <;> subst e
  ·exact ⟨fun h=>hn8 (.inl h),oM⟩
  ·exact ⟨fun h=>hn9 (.inl h),oM⟩)
 have hownl:=hown.lt;have howrl:=howr.lt;have hkeepg:∀ g,(Value.slice A' m' c').ownBlock=some g→w10.heap.size+2≤g∧g < w11.heap.size:=fun g hg'=>hownl g hg'
 have hDb:0 < M→∀ ad,D=some ad→ad.block < w0.heap.size:=fun hM ad h=>by
  obtain ⟨ad',e,hb,_⟩:=hD.2 hM;rw [h] at e;injection e with e
  rw [e];exact hb
 have hw0:=hj.below.size;have hsz14:=hz.size;have e8:=(hk8'.set_ 2 (.int .u64 (q:Int)))
 have c8:Chg (fun i=>i=g8) w12 (w12.setCell ⟨g8,2,none⟩ (.int .u64 (q:Int))):=(Chg.refl (fun i=>i=g8) w12).setCell (p:=⟨g8,2,none⟩) (.inl rfl) _;have c9:Chg (fun i=>i=g9) (w12.setCell ⟨g8,2,none⟩ (.int .u64 (q:Int))) ((w12.setCell ⟨g8,2,none⟩ (.int .u64 (q:Int))).setCell ⟨g9,3,none⟩ (.slice A12 m' c12)):=(Chg.refl (fun i=>i=g9) _).setCell (p:=⟨g9,3,none⟩) (.inl rfl) _;have e9:=(c8.blk hk9' (show ¬ g9=g8 by omega)).set_ 3 (.slice A12 m' c12);refine ⟨AddA.some_ hj hp2 hlen hw2 hsd14 hcz ?_,?_,?_,e9,⟨hn8,hn9,oM,oM⟩,fun g hg'=>?_,?_,(hD.below hb14).more hb14.size,fun hn ad h=>?_,fun hn ad h=>?_,fun g hg'=>⟨fun hn ad h=>?_,fun hn ad h=>?_⟩,hMc,hpb,hp2,fun hn ad h=>?_,hDb⟩
 ·exact fun i hi=>(hgr i hi).imp id (fun h=>Nat.le_trans hs10 h)
 ·exact (hz.own (own_below hown hb12) (fun g hg' e=>by have:=hkeepg g hg';omega)).mono oM
 ·rw [← hq]
  exact c9.blk e8 (show ¬ g8=g9 by omega)
 ·obtain ⟨ad,e1,e2⟩:=own_ad hg'
  have:=hkeepg g hg';exact ⟨by rw [← e2];exact (had ad e1).2,oM,oM⟩
 ·refine (hz.reads (Reads.of_own howr) (nL _) (fun ad h e=>?_)).more hsz14
  have h1:=howrl ad.block (by rw [h];rfl);omega
 ·have h1:=howrl ad.block (by rw [h];rfl)
  exact ⟨oM,fun h2=>by have:=hSlt _ h2;omega⟩
 ·have h1:=hDb hn ad h
  exact ⟨oM,fun h2=>(hS2 _ h2).elim (fun h3=>by have:=hj.old _ h3;omega) (fun h3=>oM)⟩
 ·have h1:=howrl ad.block (by rw [h];rfl)
  have h2:=hkeepg g hg';omega
 ·have h1:=hDb hn ad h
  have h2:=hkeepg g hg';omega
 ·have h1:=howrl ad.block (by rw [h];rfl)
  exact ⟨oM,oM⟩
def RetAdd (w0:World) (k gh:Nat) (rl:List RV) (z:HP) (st:Nat) (dl:Bool) (p:List Nat) (w':World):Prop:=∃ r z',HsJ w0 (k+1) gh (r :: rl) (vvs (r :: rl)) z' w'∧r.v.st=st∧r.v.dl=dl∧r.v.p=(if dl=true then [] else p.take 500)∧z'.a=z.a∧z'.y=z.y
section
variable {w0 w:World} {k gh:Nat} {rl:List RV} {z:HP}
theorem add_any (hj:HsJ w0 k gh rl (vvs rl) z w) (hk:k < 8) (hrl:rl.length≤8) (st:Nat) (hst:st≤4611686018427387903) (hlt:∀ u∈vvs rl,u.st < st) (gap:Nat) (dl:Bool) (D:Option Addr) (nd cd:Nat) (p:List Nat) (hD:Reads w0 w0.heap.size 1 D nd (u8s p)) (hp:∀ b∈p,b < 256) (hnd:nd≤cd) (hcd:cd≤9223372036854775807) :
  Calls Tryz.prog 126 #[.pointer (some ⟨gh,0,none⟩), .int .u64 (st:Int), .agg #[.int .u8 (gap:Int), .bool dl, .slice D nd cd]] w fun e w'=>e = .returned (.bool true)∧Hid (RetAdd w0 k gh rl z st dl p w'):=by
 have HJ:=hid hj;have HNum:=hid (show k < 8∧st≤4611686018427387903∧nd≤cd∧cd≤9223372036854775807 from ⟨hk,hst,hnd,hcd⟩);have HLt:=hid hlt;have HRl:=hid hrl;have HD:=hid (show Reads w0 w0.heap.size 1 D nd (u8s p)∧(∀ b∈p,b < 256) from ⟨hD,hp⟩);obtain ⟨older,hold⟩:∃ older,hdQ (vvs rl)=older:=⟨_,rfl⟩
 have HOld:Hid (hdQ (vvs rl)=older∧older < 18446744073709551616):=hid ⟨hold,by rw [← hold];exact hj.hist.hd64⟩;obtain ⟨W1,hW1⟩:∃ W1,w.alloc (.cells #[.int .u8 (gap:Int), .bool dl, .slice D nd cd] 229)=W1:=⟨_,rfl⟩
 have HW1:=hid hW1;have hbx:=Blk.new w 229 #[.int .u8 (gap:Int), .bool dl, .slice D nd cd];have hB1:Below w.heap.size w (w.alloc (.cells #[.int .u8 (gap:Int), .bool dl, .slice D nd cd] 229)):=(Below.refl _ _).alloc (nL _) _;rw [hW1] at hbx hB1;have HK1:=hid hbx;have HB1:=hid hB1;have HLk:Hid (∀ W,Below w.heap.size w W→Calls Tryz.prog 33 #[.pointer (some ⟨z.y.g,0,none⟩), .int .i64 0] W fun e w'=>e = .returned (.int .u64 (older:Int))∧w'=W.drew):=hid (fun W hW=>by
  have h:=linked_any (hj.bw.below hW) 0 (by decide);rw [show z.cur (416+0)=older from hj.link.trans hold] at h;exact h)
 have a1:W1.cell? ⟨w.heap.size,1,none⟩=some (.bool dl):=hbx.cell 1;have b0:W1.cell? ⟨gh,0,none⟩=some (.pointer (some ⟨z.y.g,0,none⟩)):=(hj.below_ hB1).blk.cell 0;have b3:W1.cell? ⟨z.y.g,3,none⟩=some (.pointer (some ⟨z.y.d,0,none⟩)):=(hj.below_ hB1).bw.blk.cell 3;obtain ⟨gw,hgw⟩:∃ gw,z.y.g=gw:=⟨_,rfl⟩
 obtain ⟨d,hd⟩:∃ d,z.y.d=d:=⟨_,rfl⟩
 rw [hgw] at b0 b3 HLk;rw [hd] at b3;have HGw:=hid (And.intro hgw hd);clear hj hk hrl hst hlt hD hp hnd hcd hold hbx hB1 hW1 hgw hd;go_enter Tryz.func126,Tryz.ntmps126
 go_upto_region 1 with fail
 rw [HW1.out];go_upto_region 2 with fail
 go_cut [8] from 23 to 31 (fun v wx=>∃ g8,v = .pointer (some ⟨g8,0,none⟩)∧Hid (Blk wx g8 97 #[.int .u64 (st:Int), .bool dl, .int .u64 0, .int .u64 (older:Int)]∧w.heap.size+1≤g8∧Below W1.heap.size W1 wx))
 case first =>
  have HSx:Hid (∀ W,Below W1.heap.size W1 W→W.cell? ⟨w.heap.size,1,none⟩=some (.bool dl)∧W.cell? ⟨gh,0,none⟩=some (.pointer (some ⟨gw,0,none⟩))):=hid (fun W hW=>⟨(HK1.out.below hW HK1.out.lt).cell 1,by
   have h:=(HJ.out.below_ (HB1.out.trans (hW.mono HB1.out.size))).blk.cell 0;rw [HGw.out.1] at h;exact h⟩)
  have HBd:Hid (Below W1.heap.size W1 W1.drew):=hid (Below.refl _ _).drew;refine wp_region_scriptA (fun w'=>w'.cell? ⟨w.heap.size,1,none⟩=some (.bool dl)∧w'.cell? ⟨gh,0,none⟩=some (.pointer (some ⟨gw,0,none⟩))) 11 4 [0,1,2,3,4,5,6] (by kernel_rfl) (by kernel_rfl) (by rfl) (by rfl) ⟨a1,b0⟩ ?_;intro ops HO;refine wpScriptA_take HO.out (.int .u64 (st:Int)) (by rfl) (by rfl) (fun w' hS=>?_) ?_
  ·go_simp
  simp only [Act.put,List.setIfInBounds_toArray,List.set_cons_zero,List.set_cons_succ];refine wpScriptA_take HO.out (.pointer (some ⟨w.heap.size,1,none⟩)) (by rfl) (by rfl) (fun w' hS=>?_) ?_
  ·go_simp
  simp only [Act.put,List.setIfInBounds_toArray,List.set_cons_zero,List.set_cons_succ];refine wpScriptA_take HO.out (.bool dl) (by rfl) (by rfl) (fun w' hS=>?_) ?_
  ·obtain ⟨s1,s2⟩:=hS
   go_simp
  simp only [Act.put,List.setIfInBounds_toArray,List.set_cons_zero,List.set_cons_succ];refine wpScriptA_take HO.out (.pointer (some ⟨gh,0,none⟩)) (by rfl) (by rfl) (fun w' hS=>?_) ?_
  ·go_simp
  simp only [Act.put,List.setIfInBounds_toArray,List.set_cons_zero,List.set_cons_succ];refine wpScriptA_take HO.out (.pointer (some ⟨gh,0,none⟩)) (by rfl) (by rfl) (fun w' hS=>?_) ?_
  ·go_simp
  simp only [Act.put,List.setIfInBounds_toArray,List.set_cons_zero,List.set_cons_succ];refine wpScriptA_take HO.out (.pointer (some ⟨gh,0,none⟩)) (by rfl) (by rfl) (fun w' hS=>?_) ?_
  ·go_simp
  simp only [Act.put,List.setIfInBounds_toArray,List.set_cons_zero,List.set_cons_succ];refine wpScriptA_take HO.out (.pointer (some ⟨gw,0,none⟩)) (by rfl) (by rfl) (fun w' hS=>?_) ?_
  ·obtain ⟨s1,s2⟩:=hS
   go_simp
  simp only [Act.put,List.setIfInBounds_toArray,List.set_cons_zero,List.set_cons_succ];refine wpAnyH_two HO.out (i:=7) (j:=9) (by kernel_rfl) (by rfl) (by rfl) ?_ ?_
  ·go_wp2_with (go_at_call 33;refine (HLk.out _ HB1.out.drew).mono ?_;rintro e w3 ⟨rfl,rfl⟩)
   refine ⟨⟨a1,b0⟩,?_⟩;refine wpAnyH_two HO.out (i:=8) (j:=9) (by kernel_rfl) (by rfl) (by rfl) ?_ ?_
   ·go_wp2_with fail
    refine ⟨⟨a1,b0⟩,?_⟩;refine wpAnyH_one HO.out (i:=9) (by kernel_rfl) (by rfl) ?_;go_wp2_with fail
    refine ⟨HSx.out _ (HBd.out.drew.alloc HBd.out.drew.size _),?_⟩;refine wpAnyH_one HO.out (i:=10) (by kernel_rfl) (by rfl) ?_;go_wp2_with fail
    refine ⟨HSx.out _ (HBd.out.drew.alloc HBd.out.drew.size _),?_⟩;refine wpAnyH_end HO.out (by kernel_rfl) ?_;refine NoPanic.normal ?_;go_wp2_with fail
    go_meet;exact ⟨_,rfl,hid ⟨Blk.new _ _ _,HK1.out.lt,HBd.out.drew.alloc HBd.out.drew.size _⟩⟩
   ·go_wp2_with fail
    refine ⟨HSx.out _ (HBd.out.drew.alloc HBd.out.drew.size _),?_⟩;refine wpAnyH_one HO.out (i:=8) (by kernel_rfl) (by rfl) ?_;go_wp2_with fail
    refine ⟨HSx.out _ (HBd.out.drew.alloc HBd.out.drew.size _),?_⟩;refine wpAnyH_one HO.out (i:=10) (by kernel_rfl) (by rfl) ?_;go_wp2_with fail
    refine ⟨HSx.out _ (HBd.out.drew.alloc HBd.out.drew.size _),?_⟩;refine wpAnyH_end HO.out (by kernel_rfl) ?_;refine NoPanic.normal ?_;go_wp2_with fail
    go_meet;exact ⟨_,rfl,hid ⟨Blk.new _ _ _,HK1.out.lt,HBd.out.drew.alloc HBd.out.drew.size _⟩⟩
  ·go_wp2_with fail
   refine ⟨HSx.out _ (HBd.out.alloc HBd.out.size _),?_⟩;refine wpAnyH_one HO.out (i:=7) (by kernel_rfl) (by rfl) ?_;go_wp2_with (go_at_call 33;refine (HLk.out _ (HB1.out.trans ((HBd.out.alloc HBd.out.size _).mono HB1.out.size))).mono ?_;rintro e w3 ⟨rfl,rfl⟩)
   refine ⟨HSx.out _ (HBd.out.alloc HBd.out.size _).drew,?_⟩;refine wpAnyH_one HO.out (i:=8) (by kernel_rfl) (by rfl) ?_;go_wp2_with fail
   refine ⟨HSx.out _ (HBd.out.alloc HBd.out.size _).drew,?_⟩;refine wpAnyH_one HO.out (i:=10) (by kernel_rfl) (by rfl) ?_;go_wp2_with fail
   refine ⟨HSx.out _ ((Below.refl _ _).alloc (nL _) _).drew.drew,?_⟩;refine wpAnyH_end HO.out (by kernel_rfl) ?_;refine NoPanic.normal ?_;go_wp2_with fail
   go_meet;exact ⟨_,rfl,hid ⟨(Blk.new W1 97 _).drew.drew,HK1.out.lt,((Below.refl _ _).alloc (nL _) _).drew.drew⟩⟩
 case rest =>
  obtain ⟨g8,rfl,hh⟩:=hcut;obtain ⟨hk8,hg8,hb8⟩:=hh.out;have HB8:=hid (HB1.out.trans (hb8.mono HB1.out.size));have hA8:=HK1.out.below hb8 HK1.out.lt;have c0:_=some (Value.bool dl):=hA8.cell 1;obtain ⟨W9,hW9⟩:∃ W9,wc.alloc (.cells #[.int .u64 (st:Int), .bool dl, .int .u64 0, .slice none 0 0, .slice none 0 0] 101)=W9:=⟨_,rfl⟩
  have hb9:Below wc.heap.size wc W9:=by rw [← hW9];exact (Below.refl _ _).alloc (nL _) _
  have hk9:Blk W9 wc.heap.size 101 #[.int .u64 (st:Int), .bool dl, .int .u64 0, .slice none 0 0, .slice none 0 0]:=by rw [← hW9];exact Blk.new _ _ _
  have HW9:=hid hW9;have HK9:=hid hk9;have HK8:=hid (hk8.below hb9 hk8.lt);have HA9:=hid (hA8.below hb9 hA8.lt);have HB9:=hid (HB8.out.trans (hb9.mono HB8.out.size));have HG:=hid (show w.heap.size+1≤g8∧g8 < wc.heap.size from ⟨hg8,hk8.lt⟩);have e1:W9.cell? ⟨w.heap.size,1,none⟩=some (.bool dl):=HA9.out.cell 1;obtain ⟨g9,hg9⟩:∃ g9,wc.heap.size=g9:=⟨_,rfl⟩
  clear hh hk8 hb8 hg8 hA8 hb9 hk9 hW9 a1 b0 b3 HB8;go_upto_region 4 with fail
  rw [HW9.out];rw [hg9] at HK9 HG;clear HW9 c0 hg9;go_upto_if 38 with fail
  go_cut [10] from 39 to 63 (fun v wx=>∃ (bl p2:List Nat) (A10:Option Addr) (n10 c10:Nat) (Bb:Option Addr) (nb cb:Nat) (Dd:Option Addr) (nD cD T1 N1:Nat) (cs1:Nat→CS) (f1:Nat→Option Nat) (S1:Fp) (cur1:Nat→Nat) (al1:List Nat),v = .slice A10 n10 c10∧Hid (AddM w0.heap.size k z st dl older g8 g9 bl p2 A10 n10 c10 Bb nb cb Dd nD cD w wx T1 N1 cs1 f1 S1 cur1 al1)∧Hid (p2=if dl=true then [] else p.take 500))
  case first =>
   cases dl
   ·have e2:W9.cell? ⟨w.heap.size,2,none⟩=some (.slice D nd cd):=HA9.out.cell 2
    have y4:W9.cell? ⟨g9,4,none⟩=some (.slice none 0 0):=HK9.out.cell 4;have x4:W9.frozen? ⟨g9,4,none⟩=false:=HK9.out.frozen 4;have hndc:(nd:Int)≤(cd:Int):=by have:=HNum.out;omega
    obtain ⟨M,hM⟩:∃ M:Nat,min nd 500=M:=⟨_,rfl⟩
    have HM:=hid (show M≤nd∧M≤500∧(nd≤500→M=nd)∧(500≤nd→M=500) by omega);have hMi:(if (500:Int) < (nd:Int) then (500:Int) else (nd:Int))=(M:Int):=by split <;> omega
    have hM0:(0:Int)≤(M:Int):=oM;have hMc:(M:Int)≤(cd:Int):=by have:=HM.out;omega
    clear hM;obtain ⟨W10,hW10⟩:∃ W10,W9.setCell ⟨g9,4,none⟩ (.slice D M cd)=W10:=⟨_,rfl⟩
    have hch9:Chg (fun i=>i=g9) W9 W10:=by rw [← hW10];exact (Chg.refl (fun i=>i=g9) W9).setCell (p:=⟨g9,4,none⟩) (.inl rfl) _
    have hk9:Blk W10 g9 101 #[.int .u64 (st:Int), .bool false, .int .u64 0, .slice none 0 0, .slice D M cd]:=by rw [← hW10];exact HK9.out.set_ 4 _
    have hk8:=hch9.blk HK8.out (show ¬ g8=g9 by have:=HG.out;omega);have hB10:Below w.heap.size w W10:=by rw [← hW10];exact HB9.out.setCell (p:=⟨g9,4,none⟩) (by have:=HG.out;show w.heap.size≤g9;omega) _
    have HW10:=hid hW10;have HK910:=hid hk9;have HK810:=hid hk8;have HB10:=hid hB10;have hpl:p.length=nd:=by have h1:=HD.out.1.1;simpa [u8s] using h1
    have HDM:Hid (Reads w0 w0.heap.size 1 D M (u8s (p.take M))):=hid (by
     have h1:=HD.out.1.take_ (m:=M) (by have:=HM.out;omega);rw [Nat.mul_one] at h1;have e:(u8s p).take M=u8s (p.take M):=by unfold u8s;rw [List.map_take]
     rw [e] at h1;exact h1)
    have HP2:Hid (p.take M=p.take 500∧(p.take M).length=M∧∀ b∈p.take M,b < 256):=hid ⟨by
     obtain ⟨m1,m2,m3,m4⟩:=HM.out;rcases Nat.le_total nd 500 with h | h
     ·rw [m3 h,List.take_of_length_le oM,List.take_of_length_le oM]
     ·rw [m4 h],by rw [List.length_take];have:=HM.out;omega,fun b hb=>HD.out.2 b (List.mem_of_mem_take hb)⟩
    have HWr:=hid (write_own (HJ.out.bw.sd.below hB10) z.al HJ.out.cap D M cd (p.take M) ((HDM.out.below (HJ.out.below.trans (hB10.mono HJ.out.below.size))).more (HJ.out.below.trans (hB10.mono HJ.out.below.size)).size) (fun hn ad h hs=>by
     obtain ⟨ad',e,hb,_⟩:=HDM.out.2 hn;rw [h] at e;injection e with e
     subst e;have:=HJ.out.old _ hs;omega) HP2.out.2.2 (by have:=HM.out;omega) (by have:=HM.out;have:=HNum.out;omega) HNum.out.2.2.2 (by
     have h1:=roomV_le (k:=k) (j:=1) (by have:=HNum.out;omega) (HJ.out.room.blob (n:=(p.take M).length) (by rw [HP2.out.2.1];have:=HM.out;omega));rw [HP2.out.2.1] at h1;exact h1) (by have:=HJ.out.nm;have:=HNum.out;omega) (by have:=HJ.out.tm;have:=HNum.out;omega))
    unfold dirV at HWr;rw [HGw.out.2] at HWr;have HWr2:Hid (Calls Tryz.prog 21 #[.iface 59 (.pointer (some ⟨d,0,none⟩)), .slice D M cd] W10 fun e w1=>∃ (q:Nat) (A':Option Addr) (m' c':Nat),e = .returned (.tuple #[.int .u64 (q:Int), .slice A' m' c', .int .i64 0])∧Hid (∃ (bl:List Nat) (cs2:Nat→CS) (f2:Nat→Option Nat) (S2:Fp) (cur2:Nat→Nat),q=bl.headD 0∧bl.length=nBlk (p.take M).length∧m'=bl.length∧Reads w1 w1.heap.size 1 A' m' (uCells bl)∧(∀ ad,A'=some ad→W10.heap.size≤ad.block∧¬ sfp S2 z.x ad.block)∧W2 53 10 z.cs z.f z.cur z.al (p.take M) cs2 f2 cur2 bl bl.length∧SD z.a 373 (z.T+3000) 53 (32 * 10) 10 z.x cs2 f2 (z.N+bl.length) (z.m+bl.length) z.b0 S2 cur2 w1 z.y.d z.y.r∧Chg (sfp z.S z.x) W10 w1∧Grew z.S S2 W10∧m'≤c'∧w1.ownsRow (W10.heap.size+2) 54 1 (.slice A' m' c') m' (uCells bl))):=hid (HWr.out.mono (fun e w1 h=>by
     obtain ⟨bl,A',m',c',cs2,f2,S2,cur2,h1,h2,h3,h4,h5,h6,h7,h8,h9,h10,h11⟩:=h;refine ⟨_,A',m',c',h1,hid ⟨bl,cs2,f2,S2,cur2,rfl,h2,h3,h4,h5,h6,?_,h8,h9,h10,h11⟩⟩;rw [HGw.out.2];exact h7))
    clear HWr hch9 hk9 hk8 hB10 hW10 hpl;go_upto_region 7 with fail
    rw [HW10.out];have f4:W10.cell? ⟨g9,4,none⟩=some (.slice D M cd):=HK910.out.cell 4;go_wp2_with (go_at_call 21;refine HWr2.out.mono ?_;rintro e w11 ⟨q,A',m',c',rfl,hall⟩;refine stop ?_)
    unfold Stop;obtain ⟨bl,cs2,f2,S2,cur2,hq,hlen,hm,hrd,had,hw2,hsd,hch,hgr,hmc,hown⟩:=hall.out;have HRaw:=hid (raw_any A' m' c' bl w11 hrd (by have h1:=few_blk (p:=p.take M) (by have h1:=HP2.out.2.1;have h2:=HM.out;omega);omega));have HAll:=hid (show _∧_∧_∧_∧_∧_∧_∧_∧_ from ⟨hq,hlen,hm,had,hw2,hsd,hch,hgr,hown⟩);clear hall hq hlen hm hrd had hw2 hsd hch hgr hmc hown f4 e2 y4 x4;go_wp2_with (go_at_call 51;refine HRaw.out.mono ?_;rintro e w12 ⟨A12,c12,rfl,howr,hb12⟩;have HOwr:=hid howr;have HB12:=hid hb12;clear howr hb12;refine stop ?_)
    unfold Stop;obtain ⟨hq,hlen,hm,had,hw2,hsd,hch,hgr,hown⟩:=HAll.out;have hk8:=(hch.blk HK810.out (HJ.out.fresh (by have:=HG.out;omega)))
    have hk9:=(hch.blk HK910.out (HJ.out.fresh (by have:=HG.out;omega)))
    have hk8':=hk8.below HB12.out hk8.lt;have hk9':=hk9.below HB12.out hk9.lt;have y2:w12.cell? ⟨g8,2,none⟩=some (.int .u64 0):=hk8'.cell 2;have x2:w12.frozen? ⟨g8,2,none⟩=false:=hk8'.frozen 2;have y3:w12.cell? ⟨g9,3,none⟩=some (.slice none 0 0):=hk9'.cell 3;have x3:w12.frozen? ⟨g9,3,none⟩=false:=hk9'.frozen 3;have n89:g8≠g9:=by have:=HG.out;omega
    have HF:=hid (AddM.some_ HJ.out HB10.out HK810.out HK910.out HG.out HDM.out (by rw [HP2.out.2.1];have:=HM.out;omega) HP2.out.2.2 (by have:=HM.out;have:=HNum.out;omega) hq hlen hm had hw2 hsd hch hgr hown HOwr.out HB12.out);clear hq hlen hm had hw2 hsd hch hgr hown hk8 hk9 hk8' hk9';go_wp2_with fail
    go_meet;exact ⟨bl,p.take M,_,_,_,_,_,_,_,_,_,_,_,_,_,_,_,_,rfl,HF,hid (by rw [if_neg (by decide)];exact HP2.out.1)⟩
   ·go_wp2_with fail
    go_meet;refine ⟨[],[],none,0,0,none,0,0,none,0,0,_,_,_,_,_,_,_,rfl,hid ⟨AddA.none HJ.out HB9.out,World.ownsRow_nil _ _ _ _,HK8.out,HK9.out,⟨HJ.out.fresh (by have:=HG.out;omega),HJ.out.fresh (by have:=HG.out;omega),by have:=HG.out;omega,by have:=HG.out;omega⟩,fun g hg=>(by cases hg),⟨rfl,fun h=>absurd h (Nat.lt_irrefl 0)⟩,⟨rfl,fun h=>absurd h (Nat.lt_irrefl 0)⟩,fun h=>absurd h (Nat.lt_irrefl 0),fun h=>absurd h (Nat.lt_irrefl 0),fun g hg=>(by cases hg),nL _,fun b hb=>absurd hb (by simp),Nat.zero_le _,fun h=>absurd h (Nat.lt_irrefl 0),fun h=>absurd h (Nat.lt_irrefl 0)⟩,hid rfl⟩
  case rest =>
   obtain ⟨bl,p2,A10,n10,c10,Bb,nb,cb,Dd,nD,cD,T1,N1,cs1,f1,S1,cur1,al1,rfl,HM,HP⟩:=hcut;have hM:=HM.out;obtain ⟨hdt1,hdt2⟩:=hM.add.dt_ok;have hok:verOk st dl (bl.headD 0)=true:=by
    unfold verOk;rw [decide_eq_true HNum.out.2.1,Bool.true_and,← hdt1];simp
   have HPl:Hid (Calls Tryz.prog 246 #[.iface 59 (.pointer (some ⟨d,0,none⟩)), .agg #[.int .u64 (st:Int), .bool dl, .int .u64 (bl.headD 0:Int), .int .u64 (older:Int)]] wc fun e w1=>∃ q:Nat,e = .returned (.tuple #[.int .u64 (q:Int), .int .i64 0])∧Hid (∃ cs2 f2 S2 cur2,AddB k z st dl bl p2 older q w w1 (T1+400+200) (N1+1) cs2 f2 S2 cur2 (0 :: al1)∧Chg (sfp S1 z.x) wc w1∧Grew S1 S2 wc)):=hid (by
    have h0:=vplan_ok hM.add.sd st dl (bl.headD 0) older hok HNum.out.2.1 hdt2 HOld.out.2 (by have:=hM.add.nm;have:=HJ.out.nm;have:=HNum.out;omega) (by have:=hM.add.tm;have:=HJ.out.tm;have:=HNum.out;omega) (hM.add.cap_has HNum.out.1);rw [HGw.out.2] at h0;refine h0.mono (fun e w1 h=>?_);obtain ⟨kk,ii,S2,cs2,cur2,h1,h2,h3,h4,h5,h6,h7⟩:=h;obtain ⟨q,hq⟩:∃ q,fptr 53 cs2 7 kk ii=q:=⟨_,rfl⟩
    rw [hq] at h1 h3 h6 h7;refine ⟨q,h1,hid ⟨cs2,_,S2,_,hM.add.plan hq h2 ?_ h4 h5 h6 h7,h4,h5⟩⟩;rw [HGw.out.2];exact h3)
   have g0:_=some (Value.int .u64 (st:Int)):=hM.v8.cell 0;have g1:_=some (Value.bool dl):=hM.v8.cell 1;have g2:_=some (Value.int .u64 (bl.headD 0:Int)):=hM.v8.cell 2;have g3:_=some (Value.int .u64 (older:Int)):=hM.v8.cell 3;obtain ⟨dt,hdt⟩:∃ dt,bl.headD 0=dt:=⟨_,rfl⟩
   rw [hdt] at HPl g2;clear hM hdt1 hdt2 hok e1 hdt;go_wp2_with (go_at_call 246;refine HPl.out.mono ?_;rintro e w13 ⟨q,rfl,hall⟩;refine stop ?_)
   unfold Stop;obtain ⟨cs2,f2,S2,cur2,hB,hc13,hg13⟩:=hall.out;have HB:=hid hB;have HC13:=hid hc13;have HG13:=hid hg13;have HRv:Hid (RvIn S2 z.x w13 ⟨⟨st,dl,q,bl,p2⟩,Bb,nb,cb,Dd,nD,cD⟩):=hid (RvIn.move (S:=S1) ⟨HM.out.rb,HM.out.rdd,HM.out.ob,HM.out.od,HM.out.cdd⟩ hc13 hg13);have HK9c:=hid (hc13.blk HM.out.v9 HM.out.off.2.1);have HOwn:=hid (hc13.own HM.out.own (fun g hg=>(HM.out.offk g hg).1));have HKd:=hid (kind_any q);rw [hB.q_ok.2.2,show ((7:Nat):Int)=7 from rfl] at HKd;have hgh:w13.cell? ⟨gh,0,none⟩=some (.pointer (some ⟨gw,0,none⟩)):=by
    have h1:=(hB.chg.blk HJ.out.blk HJ.out.offg).cell 0;rw [HGw.out.1] at h1;exact h1
   have hq64:=hB.q_ok.2.1;obtain ⟨i0,hi0,hz0,hz1,hz2⟩:=info_parts infoPtr;have HSz:Hid (w.heap.size≤w13.heap.size):=hid hB.chg.size;have HKb:Hid (∀ g,(Value.slice A10 n10 c10).ownBlock=some g→¬ sfp S2 z.x g∧w.heap.size≤g∧g < w13.heap.size∧g≠g9):=hid (fun g hg=>by
    obtain ⟨k1,k2,k3⟩:=HM.out.offk g hg;have h1:=HM.out.own.lt g hg;have h2:=hc13.size;refine ⟨fun hz=>?_,h1.1,oM,k3⟩;rcases hz with e | e
    ·rcases hg13 g e with e1 | e1
     ·exact k1 (.inl e1)
     ·omega
    ·exact k1 (.inr e))
   have HG9:Hid (¬ sfp S2 z.x g9∧w.heap.size≤g9∧g9 < w13.heap.size):=hid ⟨fun hz=>by
    have h1:=HM.out.v9.lt;rcases hz with e | e
    ·rcases hg13 g9 e with e1 | e1
     ·exact HM.out.off.2.1 (.inl e1)
     ·omega
    ·exact HM.out.off.2.1 (.inr e),HM.out.off.2.2.2,HK9c.out.lt⟩
   clear hall hB hc13 hg13 g0 g1 g2 g3;go_upto_region 12 with fail
   refine wp_region_scriptH (fun w'=>w'.cell? ⟨gh,0,none⟩=some (.pointer (some ⟨gw,0,none⟩))) 22 [] [(1,0),(1,1),(1,2),(1,3),(0,4),(1,5),(1,6),(1,7),(1,8),(1,9),(1,10),(1,11),(1,12),(1,13),(1,14),(1,15),(1,16),(0,17),(0,18),(0,19),(1,20),(1,21)] (by kernel_rfl) (by kernel_rfl) hgh ?_;refine tkH (.int .i64 0) (fun w' hS=>?_) ?_
   ·go_simp
   simp only [zA,zB,Act.put,zD,zE,zF];refine tkH (.bool false) (fun w' hS=>?_) ?_
   ·go_simp
   simp only [zA,zB,zC,Act.put,zD,zE,zF];refine tkH (.bool false) (fun w' hS=>?_) ?_
   ·go_simp
   simp only [zA,zB,zC,Act.put,zD,zE,zF];refine tkH (.int .u64 (q:Int)) (fun w' hS=>?_) ?_
   ·go_simp
   simp only [zA,zB,zC,Act.put,zD,zE,zF];refine wpScriptH_do (by rfl) ?_;go_wp2_with (go_at_call 150;refine (HKd.out _).mono ?_;rintro e w14 ⟨rfl,rfl⟩)
   refine ⟨hgh,?_⟩;refine tkH (.bool false) (fun w' hS=>?_) ?_
   ·go_simp
   simp only [zA,zB,zC,Act.put,zD,zE,zF];refine tkH (.bool false) (fun w' hS=>?_) ?_
   ·go_simp
   simp only [zA,zB,zC,Act.put,zD,zE,zF];refine tkH (.bool false) (fun w' hS=>?_) ?_
   ·go_simp
   simp only [zA,zB,zC,Act.put,zD,zE,zF];refine tkH (.pointer (some ⟨gh,0,none⟩)) (fun w' hS=>?_) ?_
   ·go_simp
   simp only [zA,zB,zC,Act.put,zD,zE,zF];refine tkH (.pointer (some ⟨gh,0,none⟩)) (fun w' hS=>?_) ?_
   ·go_simp
   simp only [zA,zB,zC,Act.put,zD,zE,zF];refine tkH (.pointer (some ⟨gh,0,none⟩)) (fun w' hS=>?_) ?_
   ·go_simp
   simp only [zA,zB,zC,Act.put,zD,zE,zF];refine tkH (.pointer (some ⟨gw,0,none⟩)) (fun w' hS=>?_) ?_
   ·go_simp
   simp only [zA,zB,zC,Act.put,zD,zE,zF];refine tkH (.pointer (some ⟨d,0,none⟩)) (fun w' hS=>?_) ?_
   ·go_simp
   simp only [zA,zB,zC,Act.put,zD,zE,zF];refine tkH (.iface 59 (.pointer (some ⟨d,0,none⟩))) (fun w' hS=>?_) ?_
   ·go_simp
   simp only [zA,zB,zC,Act.put,zD,zE,zF];refine tkH (.int .u64 (q:Int)) (fun w' hS=>?_) ?_
   ·go_simp
   simp only [zA,zB,zC,Act.put,zD,zE,zF];refine tkH (.slice A10 n10 c10) (fun w' hS=>?_) ?_
   ·go_simp
   simp only [zA,zB,zC,Act.put,zD,zE,zF];refine tkH (.int .u64 (q:Int)) (fun w' hS=>?_) ?_
   ·go_simp
   simp only [zA,zB,zC,Act.put,zD,zE,zF];refine wpScriptH_do (by rfl) ?_;go_wp2_with fail
   have hb14:Below w13.heap.size w13 (w13.alloc (.cells #[.int .u64 (q:Int)] 54)).drew:=((Below.refl w13.heap.size w13).alloc (nL _) _).drew;have HB14:=hid (HB.out.below_ hb14);have HRv14:=hid (HRv.out.move (Chg.of_below hb14) (Grew.refl _ _));have HK914:=hid (HK9c.out.below hb14 HK9c.out.lt);have HO14:=hid (own_below HOwn.out hb14);have hgh14:((w13.alloc (.cells #[.int .u64 (q:Int)] 54)).drew).cell? ⟨gh,0,none⟩=some (.pointer (some ⟨gw,0,none⟩)):=by
    have h1:=(HB14.out.chg.blk HJ.out.blk HJ.out.offg).cell 0;rw [HGw.out.1] at h1;exact h1
   have HBl:Hid (bl.length=n10∧n10≤10):=hid (by
    have h1:=HOwn.out.1;simp only [uCells,List.length_map] at h1;have h2:=HB.out.blen;have h3:=few_blk (p:=p2) HM.out.pl;split at h2 <;> omega)
   have HSz14:Hid (w13.heap.size≤((w13.alloc (.cells #[.int .u64 (q:Int)] 54)).drew).heap.size):=hid hb14.size;have hrl14:Reads ((w13.alloc (.cells #[.int .u64 (q:Int)] 54)).drew) ((w13.alloc (.cells #[.int .u64 (q:Int)] 54)).drew).heap.size 1 (some ⟨w13.heap.size,0,none⟩) 1 (uCells [q]):=(lit_cells w13 #[.int .u64 (q:Int)] 54 [q] rfl).below (Below.refl _ _).drew;have HRl14:=hid hrl14;refine ⟨hgh14,?_⟩;clear hb14 hgh14 hrl14 hgh;generalize hW14:(w13.alloc (.cells #[.int .u64 (q:Int)] 54)).drew=w14 at *;clear hW14;refine wpScriptH_do (by rfl) ?_;refine wpList_app3 _ (.tmp 86) (.tmp 88) 40 rfl rfl w.heap.size 54 i0 _ 1 8 Tryz.underlying40 hi0 hz0 hz1 hz2 rfl Nat.one_pos (.slice A10 n10 c10) n10 (uCells bl) rfl HO14.out _ (some ⟨w13.heap.size,0,none⟩) 1 1 (uCells [q]) rfl HRl14.out (uCells_one _) ?_ ?_ ?_ ?_
   ·have:=HBl.out;unfold maxLen;omega
   ·have:=HBl.out;omega
   ·have h1:=HSz.out;have h2:=HSz14.out;omega
   intro A15 n15 c15 w15 hn15 ho15 hg15 hv15;have HN15:=hid hn15;have HO15:=hid ho15;have HG15:=hid hg15;have HV15:=hid hv15;clear hn15 ho15 hg15 hv15;go_wp2_with fail
   have hkb:=HKb.out;have hch15:Chg (fun i=>(Value.slice A10 n10 c10).ownBlock=some i) w14 w15:=(Chg.refl (fun i=>(Value.slice A10 n10 c10).ownBlock=some i) w14).grown HG15.out (fun g hg => .inl hg);have HB15:=hid (HB14.out.chg_ HJ.out hch15 (fun i hi=>⟨fun e=>(hkb i hi).1 (.inl e),(hkb i hi).2.1⟩));have HRv15:=hid (HRv14.out.chg hch15 (fun hn ad had hz=>((HM.out.ne _ hz).1 hn ad had) rfl) (fun hn ad had hz=>((HM.out.ne _ hz).2 hn ad had) rfl));have HK915:=hid (hch15.blk HK914.out (fun hz=>(hkb _ hz).2.2.2 rfl));have hgh15:w15.cell? ⟨gh,0,none⟩=some (.pointer (some ⟨gw,0,none⟩)):=by
    have h1:=(HB15.out.chg.blk HJ.out.blk HJ.out.offg).cell 0;rw [HGw.out.1] at h1;exact h1
   have HOw15:Hid (w15.ownsRow w.heap.size 54 1 (.slice A15 n15 c15) n15 (uCells (bl++[q]))):=hid (by
    have e1:uCells (bl++[q])=uCells bl++uCells [q]:=by simp [uCells]
    rw [e1];exact HO15.out)
   have HSt:Hid (Calls Tryz.prog 36 #[.pointer (some ⟨gw,0,none⟩), .iface 59 (.pointer (some ⟨d,0,none⟩)), .int .i64 0, .int .u64 (q:Int), .slice A15 n15 c15] w15 fun e w1=>e = .returned (.int .i64 0)∧Hid (∃ z',HsJ w0 (k+1) gh rl (⟨st,dl,q,bl,p2⟩ :: vvs rl) z' w1∧z'.a=z.a∧z'.x=z.x∧z'.y=z.y∧z'.A=z.A∧z'.n=z.n∧z'.c=z.c∧Chg (sfp S2 z.x) w15 w1∧Grew S2 z'.S w15)):=hid (by
    have hlen:(bl++[q]).length=n15:=by
     have h1:=HN15.out;have h2:=HBl.out.1;rw [List.length_append,List.length_singleton];omega
    have h0:=set_any HB15.out.sd HJ.out.bw.few gw 0 q (by decide) HB15.out.q_ok.2.1 A15 n15 c15 (bl++[q]) (Reads.of_own HOw15.out) (fun ad had hz=>by
     have hob:(Value.slice A15 n15 c15).ownBlock=some ad.block:=by rw [had];rfl
     rcases HV15.out with e | e
     ·rw [hob] at e
      exact (hkb ad.block e.symm).1 hz
     ·rw [hob] at e
      injection e with e
      have:=sfp_lt HB14.out.sd hz;omega) HB15.out.keep_ok HB15.out.prep.nd (by rw [hlen];have:=HN15.out;have:=HBl.out;omega) (by have:=HB15.out.tm;have:=HJ.out.tm;have:=HNum.out;omega) (by have:=HB15.out.nm;have:=HJ.out.nm;have:=HNum.out;have:=HN15.out;have:=HBl.out;omega)
    unfold dirV at h0;rw [HGw.out.2] at h0;refine h0.mono (fun e w1 h=>?_);have he:e = .returned (.int .i64 0):=by obtain ⟨ks,V,cm,S',h1,_⟩:=h;exact h1
    refine ⟨he,hid ?_⟩;refine HB15.out.set (e:=e) HJ.out HOld.out.1.symm HNum.out.2.1 HLt.out HM.out.pb HM.out.pl hlen.symm ?_;rw [HGw.out.2];exact h)
   refine ⟨hgh15,?_⟩;clear hkb hch15 hgh15;refine wpScriptH_do (by rfl) ?_;go_wp2_with (go_at_call 36;refine HSt.out.mono ?_;rintro e w16 ⟨rfl,hall⟩)
   obtain ⟨z',hj16,ea,ex,ey,eA,en,ec,hc16,hg16⟩:=hall.out;have HJ16:=hid hj16;have HE:=hid (show z'.a=z.a∧z'.x=z.x∧z'.y=z.y∧z'.A=z.A∧z'.n=z.n∧z'.c=z.c from ⟨ea,ex,ey,eA,en,ec⟩);have HRv16:=hid (HRv15.out.move hc16 hg16);have HK916:=hid (hc16.blk HK915.out HG9.out.1);have HG916:Hid (¬ sfp z'.S z.x g9):=hid (fun hz=>by
    have h1:=HK915.out.lt;rcases hz with e | e
    ·rcases hg16 g9 e with e1 | e1
     ·exact HG9.out.1 (.inl e1)
     ·omega
    ·exact HG9.out.1 (.inr e))
   have hgh16:w16.cell? ⟨gh,0,none⟩=some (.pointer (some ⟨gw,0,none⟩)):=by
    have h1:=hj16.blk.cell 0;rw [ey,HGw.out.1] at h1;exact h1
   have y2:w16.cell? ⟨g9,2,none⟩=some (.int .u64 0):=HK916.out.cell 2;have x2:w16.frozen? ⟨g9,2,none⟩=false:=HK916.out.frozen 2;have HSz16:Hid (w15.heap.size≤w16.heap.size):=hid hc16.size;clear hall hj16 ea ex ey eA en ec hc16 hg16;refine ⟨hgh16,?_⟩;clear hgh16;refine tkH (.bool false) (fun w' hS=>?_) ?_
   ·go_simp
   simp only [zA,zB,zC,Act.put,zD,zE,zF];refine tkH (.bool false) (fun w' hS=>?_) ?_
   ·go_simp
   simp only [zA,zB,zC,Act.put,zD,zE,zF];show wpList _ _ _ _ _ _;simp only [List.drop_succ_cons,List.drop_zero];refine NoPanic.normal ?_;obtain ⟨W17,hW17⟩:∃ W17,w16.setCell ⟨g9,2,none⟩ (.int .u64 (q:Int))=W17:=⟨_,rfl⟩
   have hc17:Chg (fun i=>i=g9) w16 W17:=by rw [← hW17];exact (Chg.refl (fun i=>i=g9) w16).setCell (p:=⟨g9,2,none⟩) (.inl rfl) _
   have HW17:=hid hW17;have HK917:Hid (Blk W17 g9 101 #[.int .u64 (st:Int), .bool dl, .int .u64 (q:Int), .slice Bb nb cb, .slice Dd nD cD]):=hid (by rw [← hW17];exact HK916.out.set_ 2 _);have HJ17:=hid (HJ16.out.chg_ hc17 (fun i hi=>by
    have ei:i=g9:=hi;subst ei;obtain ⟨-,ex,ey,eA,en,ec⟩:=HE.out;have h1:=HJ.out.blk.lt;have h2:=HG9.out.2.1;refine ⟨by rw [ex];exact HG916.out,oM,fun hn ad had=>?_,fun r hr=>?_⟩
    ·rw [en] at hn
     rw [eA] at had;have:=(HJ.out.offA hn ad had).1;omega
    ·obtain ⟨-, -,r3,r4, -⟩:=HJ.out.rin r hr
     exact ⟨fun hn ad had=>by have:=(r3 hn ad had).1;omega,fun hn ad had=>by have:=(r4 hn ad had).1;omega⟩))
   have HRv17:=hid (HRv16.out.chg hc17 (fun hn ad had hz=>(HM.out.nb9 hn ad had).2 hz) (fun hn ad had hz=>by
    have ei:ad.block=g9:=hz;have h1:=HM.out.nd9 hn ad had;have h2:=HG9.out.2.1;have h3:=HJ.out.below.size;omega))
   clear hW17 hc17;have HSz17:Hid (w16.heap.size≤W17.heap.size):=hid (by rw [← HW17.out];simp);have hgA:W17.cell? ⟨gh,1,none⟩=some (.slice z.A z.n z.c):=by
    have h1:=HJ17.out.blk.cell 1;obtain ⟨-, -, -,eA,en,ec⟩:=HE.out;rw [eA,en,ec] at h1;exact h1
   obtain ⟨A0,hA0⟩:∃ A0,z.A=A0:=⟨_,rfl⟩
   obtain ⟨n0,hn0⟩:∃ n0,z.n=n0:=⟨_,rfl⟩
   obtain ⟨c0,hc0⟩:∃ c0,z.c=c0:=⟨_,rfl⟩
   rw [hA0,hn0,hc0] at hgA;have HRd17:Hid (Reads W17 W17.heap.size 5 A0 n0 (rvCells rl)):=hid (by
    have h1:=HJ17.out.rd;obtain ⟨-, -, -,eA,en, -⟩:=HE.out;rw [eA,en,hA0,hn0] at h1;exact h1)
   have HN0:Hid (n0≤8):=hid (by
    have h1:=rv_len HJ.out.rd;rw [hn0] at h1;have h2:=HRl.out;omega)
   have HGh17:=hid HJ17.out.blk;have v0:W17.cell? ⟨g9,0,none⟩=some (.int .u64 (st:Int)):=HK917.out.cell 0;have v1:W17.cell? ⟨g9,1,none⟩=some (.bool dl):=HK917.out.cell 1;have v2:W17.cell? ⟨g9,2,none⟩=some (.int .u64 (q:Int)):=HK917.out.cell 2;have v3:W17.cell? ⟨g9,3,none⟩=some (.slice Bb nb cb):=HK917.out.cell 3;have v4:W17.cell? ⟨g9,4,none⟩=some (.slice Dd nD cD):=HK917.out.cell 4;obtain ⟨j0,hj0,hy0,hy1,hy2⟩:=info_parts infoRV;clear hA0 hn0 hc0;go_upto_region 15 with fail
   rw [HW17.out];refine wp_region_scriptH (fun w'=>w'.cell? ⟨gh,1,none⟩=some (.slice A0 n0 c0)∧w'.cell? ⟨g9,0,none⟩=some (.int .u64 (st:Int))∧w'.cell? ⟨g9,1,none⟩=some (.bool dl)∧w'.cell? ⟨g9,2,none⟩=some (.int .u64 (q:Int))∧w'.cell? ⟨g9,3,none⟩=some (.slice Bb nb cb)∧w'.cell? ⟨g9,4,none⟩=some (.slice Dd nD cD)) 10 [] [(1,0),(1,1),(1,3),(1,4),(1,5),(1,6),(0,2),(0,7),(1,8),(1,9)] (by kernel_rfl) (by kernel_rfl) ⟨hgA,v0,v1,v2,v3,v4⟩ ?_;refine tkH (.pointer (some ⟨gh,0,none⟩)) (fun w' hS=>?_) ?_
   ·go_simp
   simp only [zA,zB,Act.put,zD,zE,zF];refine tkH (.agg #[.int .u64 (st:Int), .bool dl, .int .u64 (q:Int), .slice Bb nb cb, .slice Dd nD cD]) (fun w' hS=>?_) ?_
   ·obtain ⟨s0,s1,s2,s3,s4,s5⟩:=hS
    go_simp
   simp only [zA,zB,zC,Act.put,zD,zE,zF];refine tkH (.pointer (some ⟨gh,0,none⟩)) (fun w' hS=>?_) ?_
   ·go_simp
   simp only [zA,zB,zC,Act.put,zD,zE,zF];refine tkH (.pointer (some ⟨gh,0,none⟩)) (fun w' hS=>?_) ?_
   ·go_simp
   simp only [zA,zB,zC,Act.put,zD,zE,zF];refine tkH (.pointer (some ⟨gh,1,none⟩)) (fun w' hS=>?_) ?_
   ·go_simp
   simp only [zA,zB,zC,Act.put,zD,zE,zF];refine tkH (.slice A0 n0 c0) (fun w' hS=>?_) ?_
   ·obtain ⟨s0,s1,s2,s3,s4,s5⟩:=hS
    go_simp
   simp only [zA,zB,zC,Act.put,zD,zE,zF];refine wpScriptH_do (by rfl) ?_;go_wp2_with fail
   have hb18:Below W17.heap.size W17 (W17.alloc (.cells #[.int .u64 (st:Int), .bool dl, .int .u64 (q:Int), .slice Bb nb cb, .slice Dd nD cD] 101)).drew:=((Below.refl _ _).alloc (nL _) _).drew;have hol:(W17.alloc (.cells #[.int .u64 (st:Int), .bool dl, .int .u64 (q:Int), .slice Bb nb cb, .slice Dd nD cD] 101)).drew.ownsRow W17.heap.size 101 5 (.slice (some ⟨W17.heap.size,0,none⟩) 1 1) 1 (rvCells [⟨⟨st,dl,q,bl,p2⟩,Bb,nb,cb,Dd,nD,cD⟩]) :=
    own_below ⟨rfl, .inr ⟨W17.heap.size,1,#[.int .u64 (st:Int), .bool dl, .int .u64 (q:Int), .slice Bb nb cb, .slice Dd nD cD],rfl,nL _,heap_alloc_new _ _,nL _,by unfold maxLen;omega,rfl,rfl⟩⟩ (Below.refl _ _).drew
   have HB18:=hid hb18;have HOl:=hid hol;have HRd18:=hid ((HRd17.out.below hb18).more hb18.size);have hS18:∀ W,Below W17.heap.size W17 W→W.cell? ⟨gh,1,none⟩=some (.slice A0 n0 c0)∧W.cell? ⟨g9,0,none⟩=some (.int .u64 (st:Int))∧W.cell? ⟨g9,1,none⟩=some (.bool dl)∧W.cell? ⟨g9,2,none⟩=some (.int .u64 (q:Int))∧W.cell? ⟨g9,3,none⟩=some (.slice Bb nb cb)∧W.cell? ⟨g9,4,none⟩=some (.slice Dd nD cD):=fun W hW=>by
    have h1:=HK917.out.below hW HK917.out.lt;refine ⟨?_,h1.cell 0,h1.cell 1,h1.cell 2,h1.cell 3,h1.cell 4⟩;rw [← hgA];exact hW.cell (p:=⟨gh,1,none⟩) HGh17.out.lt
   have HS18:=hid hS18;refine ⟨hS18 _ hb18,?_⟩;clear hb18 hol hS18;generalize hW18:(W17.alloc (.cells #[.int .u64 (st:Int), .bool dl, .int .u64 (q:Int), .slice Bb nb cb, .slice Dd nD cD] 101)).drew=w18 at *;clear hW18;refine wpScriptH_do (by rfl) ?_;refine wpList_app _ (.tmp 97) (.tmp 101) 90 rfl rfl W17.heap.size 101 j0 _ 5 72 Tryz.underlying90 hj0 hy0 hy1 hy2 rfl oM (.slice (some ⟨W17.heap.size,0,none⟩) 1 1) 1 (rvCells [⟨⟨st,dl,q,bl,p2⟩,Bb,nb,cb,Dd,nD,cD⟩]) rfl HOl.out _ A0 n0 c0 (rvCells rl) rfl HRd18.out (rvCells_one _) ?_ ?_ ?_ ?_
   ·have:=HN0.out;unfold maxLen;omega
   ·have:=HN0.out;omega
   ·exact HB18.out.size
   intro A19 n19 c19 w19 hn19 ho19 hg19 hb19;have HO19:=hid ho19;have HB19:=hid (HB18.out.trans hb19);clear hn19 ho19 hg19 hb19;go_wp2_with fail
   refine ⟨HS18.out _ HB19.out,?_⟩;have hkg:=HGh17.out.below HB19.out HGh17.out.lt;have y19:w19.frozen? ⟨gh,1,none⟩=false:=hkg.frozen 1;have x19:w19.cell? ⟨gh,1,none⟩=some (.slice A0 n0 c0):=(HS18.out _ HB19.out).1;clear hkg;refine tkH (.pointer (some ⟨gh,0,none⟩)) (fun w' hS=>?_) ?_
   ·go_simp
   simp only [zA,zB,zC,Act.put,zD,zE,zF];refine tkH (.pointer (some ⟨gh,1,none⟩)) (fun w' hS=>?_) ?_
   ·go_simp
   simp only [zA,zB,zC,Act.put,zD,zE,zF];show wpList _ _ _ _ _ _;simp only [List.drop_succ_cons,List.drop_zero];go_wp2_with fail
   refine NoPanic.normal ?_;have HF:=hid (HJ17.out.push (r:=⟨⟨st,dl,q,bl,p2⟩,Bb,nb,cb,Dd,nD,cD⟩) (by obtain ⟨-,ex, -⟩:=HE.out;have h1:=HRv17.out;rw [← ex] at h1;exact h1) HB19.out HO19.out (fun hn ad had=>by
    have h1:=(HM.out.nb9 hn ad had).1;have h2:=HJ.out.blk.lt;omega) (fun hn ad had=>by
    have h1:=HM.out.nd9 hn ad had;have h2:=HJ.out.ghl;omega))
   have HF2:Hid (RetAdd w0 k gh rl z st dl p (w19.setCell ⟨gh,1,none⟩ (.slice A19 n19 c19))):=hid ⟨_,_,HF.out,rfl,rfl,HP.out,HE.out.1,HE.out.2.2.1⟩;clear y19 x19;go_wp2_with fail
   go_ret;exact ⟨rfl,HF2⟩
end
end
end Go.Proofs.YtfkjjoglnmeciaaGreatDoor

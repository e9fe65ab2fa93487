/- part 30 -/
import Derived.Test.YtfkjjoglnmeciaaGreatDoorMah
import Derived.Test.YtfkjjoglnmeciaaGreatDoorMbc
set_option maxRecDepth 100000
set_option maxHeartbeats 16000000
namespace Go.Proofs.YtfkjjoglnmeciaaGreatDoor
open Go.Lib (hid)
section
open Go.RowKit Go.Maps
theorem z0c.take_ {w:World} {B size n m:Nat} {A:Option Addr} {xs:List Value} (h:z0c w B size A n xs) (hm:m<=n):z0c w B size A m (xs.take (m * size)):=by
 obtain ⟨h1,h2⟩:=h;have h3:m * size<=n * size:=Nat.mul_le_mul_right _ hm;refine ⟨by rw [List.length_take];omega,fun hp=>?_⟩;obtain ⟨ad,e,hb,hc⟩:=h2 oM;refine ⟨ad,e,hb,fun j u hu=>hc j u ?_⟩;rw [List.getElem?_take] at hu;split at hu
 ·exact hu
 ·cases hu
structure AddM (B0 k:Nat) (z:HP) (st:Nat) (dl:Bool) (older g8 g9:Nat) (bl p:List Nat) (A10:Option Addr) (n10 c10:Nat) (Bb:Option Addr) (nb cb:Nat) (Dd:Option Addr) (nD cD:Nat) (w wx:World) (T1 N1:Nat) (cs1:Nat->CS) (f1:Nat->Option Nat) (S1:Fp) (cur1:Nat->Nat) (al1:List Nat):Prop where
 add:AddA k z dl bl p w wx T1 N1 cs1 f1 S1 cur1 al1
 own:wx.ownsRow w.heap.size 54 1 (.slice A10 n10 c10) n10 (z0a bl)
 v8:Blk wx g8 97 #[.int .u64 st,.bool dl,.int .u64 (bl.headD 0:Int),.int .u64 older]
 v9:Blk wx g9 101 #[.int .u64 st,.bool dl,.int .u64 0,.slice Bb nb cb,.slice Dd nD cD]
 off:¬ sfp S1 z.x g8/\¬ sfp S1 z.x g9/\w.heap.size<=g8/\w.heap.size<=g9
 offk:∀ g,(Value.slice A10 n10 c10).ownBlock=some g->¬ sfp S1 z.x g/\g≠g8/\g≠g9
 rb:z0c wx wx.heap.size 1 Bb nb (z0a bl)
 rdd:z0c wx wx.heap.size 1 Dd nD (u8s p)
 ob:OffA S1 z.x wx Bb nb
 od:OffA S1 z.x wx Dd nD
 ne:∀ g,(Value.slice A10 n10 c10).ownBlock=some g->(0 < nb->∀ ad,Bb=some ad->ad.block≠g)/\(0 < nD->∀ ad,Dd=some ad->ad.block≠g)
 cdd:nD<=cD
 pb:∀ b∈p,b < 256
 pl:p.length<=500
 nb9:0 < nb->∀ ad,Bb=some ad->w.heap.size<=ad.block/\ad.block≠g9
 nd9:0 < nD->∀ ad,Dd=some ad->ad.block < B0
theorem w8a:(Tryz.prog.info? 101).map (fun i=>(i.zero,i.size,i.bytes))=some (some (.agg #[.int .u64 0,.bool false,.int .u64 0,.slice none 0 0,.slice none 0 0]),5,72):=by kernel_rfl
theorem x0g:∀ l:List RV,∀ u∈z0u l,u.oneCell'=true:=fun l u hu=>by
 obtain ⟨r,_,hr⟩:=List.mem_flatMap.1 hu;unfold RV.cells at hr;simp only [List.mem_cons,List.not_mem_nil,or_false] at hr;rcases hr with rfl | rfl | rfl | rfl | rfl <;> rfl
theorem w8k {A:Option Addr} {n c g:Nat} (h:(Value.slice A n c).ownBlock=some g):∃ ad,A=some ad/\ad.block=g:=by
 cases A with
 | none=>cases h
 | some ad =>
  refine ⟨ad,rfl,?_⟩;have h1:some ad.block=some g:=h;injection h1
theorem AddM.some_ {w0 w w10 w11 w12:World} {k gh:Nat} {rl:List RV} {vl:List VV} {z:HP} (hj:HsJ w0 k gh rl vl z w) {st older g8 g9 M cd q m' c' c12:Nat} {D A' A12:Option Addr} {p2 bl:List Nat} {cs2:Nat->CS} {f2:Nat->Option Nat} {S2:Fp} {cur2:Nat->Nat}
  (hB10:Blw w w10) (hk8:Blk w10 g8 97 #[.int .u64 st,.bool false,.int .u64 0,.int .u64 older]) (hk9:Blk w10 g9 101 #[.int .u64 st,.bool false,.int .u64 0,.slice none 0 0,.slice D M cd]) (hg:w.heap.size+1<=g8/\g8 < g9)
  (hD:z0c w0 w0.heap.size 1 D M (u8s p2)) (hp2:p2.length<=500) (hpb:∀ b∈p2,b < 256) (hMc:M<=cd) (hq:q=bl.headD 0) (hlen:bl.length=nBlk p2.length) (_hm:m'=bl.length) (had:∀ ad,A'=some ad->w10.heap.size<=ad.block/\¬ sfp S2 z.x ad.block) (hw2:W2 53 10 z.cs z.f z.cur z.al p2 cs2 f2 cur2 bl bl.length)
  (hsd:SD z.a 373 (z.T+3000) 53 (32 * 10) 10 z.x cs2 f2 (z.N+bl.length) (z.m+bl.length) z.b0 S2 cur2 w11 z.y.d z.y.r) (hch:Chg (sfp z.S z.x) w10 w11) (hgr:Grew z.S S2 w10) (hown:w11.ownsRow (w10.heap.size+2) 54 1 (.slice A' m' c') m' (z0a bl))
  (howr:w12.ownsRow w11.heap.size 32 1 (.slice A12 m' c12) m' (z0a bl)) (hb12:Blw w11 w12) :
  AddM w0.heap.size k z st false older g8 g9 bl p2 A' m' c' A12 m' c12 D M cd w ((w12.setCell ⟨g8,2,none⟩ (.int .u64 q)).setCell ⟨g9,3,none⟩ (.slice A12 m' c12)) (z.T+3000) (z.N+bl.length) cs2 f2 S2 cur2 (alW p2.length z.al (nBlk p2.length)):=by
 have Gl:=hB10.size;have Gq:=hch.size;have Gr:=hb12.size;have Gu:=hk9.lt;have Gt:=hk8.lt;have Gi:∀ i,sfp S2 z.x i->i < w11.heap.size:=fun i hi=>x2f hsd hi
 have Gh:∀ i,sfp S2 z.x i->sfp z.S z.x i\/w10.heap.size<=i:=fun i hi=>by
  rcases hi with e | e
  ·exact (hgr i e).imp .inl id
  ·exact .inl (.inr e)
 have Gn:¬ sfp S2 z.x g8:=fun h=>(Gh g8 h).elim (hj.fresh oM) (fun h=>oM)
 have Go:¬ sfp S2 z.x g9:=fun h=>(Gh g9 h).elim (hj.fresh oM) (fun h=>oM)
 have Gj:=(hch.blk hk8 (hj.fresh oM)).below hb12 (by have:=(hch.blk hk8 (hj.fresh oM)).lt;exact this);have Gk:=(hch.blk hk9 (hj.fresh oM)).below hb12 (by have:=(hch.blk hk9 (hj.fresh oM)).lt;exact this);have Gp:Chg (sfp z.S z.x) w w12:=((Chg.of_below hB10).trans hch (fun i hi => .inl hi)).below hb12;have hz:Chg (fun i=>i=g8\/i=g9) w12 ((w12.setCell ⟨g8,2,none⟩ (.int .u64 q)).setCell ⟨g9,3,none⟩ (.slice A12 m' c12)):=((Chg.refl _ w12).setCell (p:=⟨g8,2,none⟩) (.inl (.inl rfl)) _).setCell (p:=⟨g9,3,none⟩) (.inl (.inr rfl)) _;have Gm:Chg (sfp z.S z.x) w ((w12.setCell ⟨g8,2,none⟩ (.int .u64 q)).setCell ⟨g9,3,none⟩ (.slice A12 m' c12)):=(Gp.setCell (p:=⟨g8,2,none⟩) (.inr (by show w.heap.size<=g8;omega)) _).setCell (p:=⟨g9,3,none⟩) (.inr (by show w.heap.size<=g9;omega)) _;have Gc:Blw w0 ((w12.setCell ⟨g8,2,none⟩ (.int .u64 q)).setCell ⟨g9,3,none⟩ (.slice A12 m' c12)):=hj.below.trans (Gm.toBelow hj.below.size hj.old);have Ge:=(hsd.below hb12).chg (B:=w.heap.size) hj.bw.sd.lo hz (fun i hi=>by
  rcases hi with e | e <;> subst e
  ·exact ⟨fun h=>Gn (.inl h),oM⟩
  ·exact ⟨fun h=>Go (.inl h),oM⟩)
 have Gd:=hown.lt;have Gb:=howr.lt;have Ga:∀ g,(Value.slice A' m' c').ownBlock=some g->w10.heap.size+2<=g/\g < w11.heap.size:=fun g hg'=>Gd g hg'
 have Gg:0 < M->∀ ad,D=some ad->ad.block < w0.heap.size:=fun hM ad h=>by
  obtain ⟨Gs,e,hb,_⟩:=hD.2 hM;rw [h] at e;injection e with e
  rw [e];exact hb
 have Gv:=hj.below.size;have Gf:=hz.size;have e8:=(Gj.set_ 2 (.int .u64 q))
 have c8:Chg (fun i=>i=g8) w12 (w12.setCell ⟨g8,2,none⟩ (.int .u64 q)):=(Chg.refl (fun i=>i=g8) w12).setCell (p:=⟨g8,2,none⟩) (.inl rfl) _;have c9:Chg (fun i=>i=g9) (w12.setCell ⟨g8,2,none⟩ (.int .u64 q)) ((w12.setCell ⟨g8,2,none⟩ (.int .u64 q)).setCell ⟨g9,3,none⟩ (.slice A12 m' c12)):=(Chg.refl (fun i=>i=g9) _).setCell (p:=⟨g9,3,none⟩) (.inl rfl) _;have e9:=(c8.blk Gk (show ¬ g9=g8 by omega)).set_ 3 (.slice A12 m' c12);refine ⟨AddA.some_ hj hp2 hlen hw2 Ge Gm ?_,?_,?_,e9,⟨Gn,Go,oM,oM⟩,fun g hg'=>?_,?_,(hD.below Gc).more Gc.size,fun hn ad h=>?_,fun hn ad h=>?_,fun g hg'=>⟨fun hn ad h=>?_,fun hn ad h=>?_⟩,hMc,hpb,hp2,fun hn ad h=>?_,Gg⟩
 ·exact fun i hi=>(hgr i hi).imp id (fun h=>Nat.le_trans Gl h)
 ·exact (hz.own (z0r hown hb12) (fun g hg' e=>by have:=Ga g hg';omega)).mono oM
 ·rw [<- hq]
  exact c9.blk e8 (show ¬ g8=g9 by omega)
 ·obtain ⟨ad,e1,e2⟩:=w8k hg'
  have:=Ga g hg';exact ⟨by rw [<- e2];exact (had ad e1).2,oM,oM⟩
 ·refine (hz.reads (z0c.of_own howr) (nL _) (fun ad h e=>?_)).more Gf
  have h1:=Gb ad.block (by rw [h];rfl);omega
 ·have h1:=Gb ad.block (by rw [h];rfl)
  exact ⟨oM,fun h2=>by have:=Gi _ h2;omega⟩
 ·have h1:=Gg hn ad h
  exact ⟨oM,fun h2=>(Gh _ h2).elim (fun h3=>by have:=hj.old _ h3;omega) (fun h3=>oM)⟩
 ·have h1:=Gb ad.block (by rw [h];rfl)
  have h2:=Ga g hg';omega
 ·have h1:=Gg hn ad h
  have h2:=Ga g hg';omega
 ·have h1:=Gb ad.block (by rw [h];rfl)
  exact ⟨oM,oM⟩
def w3m (w0:World) (k gh:Nat) (rl:List RV) (z:HP) (st:Nat) (dl:Bool) (p:List Nat) (w':World):Prop:=∃ r z',HsJ w0 (k+1) gh (r :: rl) (vvs (r :: rl)) z' w'/\r.v.st=st/\r.v.dl=dl/\r.v.p=(if dl=true then [] else p.take 500)/\z'.a=z.a/\z'.y=z.y
section
variable {w0 w:World} {k gh:Nat} {rl:List RV} {z:HP}
theorem w4q (hj:HsJ w0 k gh rl (vvs rl) z w) (hk:k < 8) (hrl:rl.length<=8) (st:Nat) (hst:st<=4611686018427387903) (hlt:∀ u∈vvs rl,u.st < st) (gap:Nat) (dl:Bool) (D:Option Addr) (nd cd:Nat) (p:List Nat) (hD:z0c w0 w0.heap.size 1 D nd (u8s p)) (hp:∀ b∈p,b < 256) (hnd:nd<=cd) (hcd:cd<=9223372036854775807) :
  Calls Tryz.prog 126 #[.pointer (some ⟨gh,0,none⟩),.int .u64 st,.agg #[.int .u8 gap,.bool dl,.slice D nd cd]] w fun e w'=>e=.returned (.bool true)/\Hid (w3m w0 k gh rl z st dl p w'):=by
 have HJ:=hid hj;have Gb:=hid (show k < 8/\st<=4611686018427387903/\nd<=cd/\cd<=9223372036854775807 from ⟨hk,hst,hnd,hcd⟩);have Ft:=hid hlt;have Fv:=hid hrl;have HD:=hid (show z0c w0 w0.heap.size 1 D nd (u8s p)/\(∀ b∈p,b < 256) from ⟨hD,hp⟩);obtain ⟨Ga,G6⟩:∃ Ga,hdQ (vvs rl)=Ga:=⟨_,rfl⟩
 have GZ:Hid (hdQ (vvs rl)=Ga/\Ga < 18446744073709551616):=hid ⟨G6,by rw [<- G6];exact hj.hist.hd64⟩;obtain ⟨W1,DM⟩:∃ W1,w.alloc (.cells #[.int .u8 gap,.bool dl,.slice D nd cd] 229)=W1:=⟨_,rfl⟩
 have Fz:=hid DM;have D2:=Blk.new w 229 #[.int .u8 gap,.bool dl,.slice D nd cd];have Do:Blw w (w.alloc (.cells #[.int .u8 gap,.bool dl,.slice D nd cd] 229)):=(Below.refl _ _).alloc (nL _) _;rw [DM] at D2 Do;have GI:=hid D2;have GF:=hid Do;have DB:Hid (∀ W,Blw w W->Calls Tryz.prog 33 #[.pointer (some ⟨z.y.g,0,none⟩),.int .i64 0] W fun e w'=>e=.returned (.int .u64 Ga)/\w'=W.drew):=hid (fun W hW=>by
  have h:=z8d (hj.bw.below hW) 0 (by decide);rw [show z.cur (416+0)=Ga from hj.link.trans G6] at h;exact h)
 have a1:W1.cell? ⟨w.heap.size,1,none⟩=some (.bool dl):=D2.cell 1;have b0:W1.cell? ⟨gh,0,none⟩=some (.pointer (some ⟨z.y.g,0,none⟩)):=(hj.below_ Do).blk.cell 0;have b3:W1.cell? ⟨z.y.g,3,none⟩=some (.pointer (some ⟨z.y.d,0,none⟩)):=(hj.below_ Do).bw.blk.cell 3;obtain ⟨gw,DQ⟩:∃ gw,z.y.g=gw:=⟨_,rfl⟩
 obtain ⟨d,hd⟩:∃ d,z.y.d=d:=⟨_,rfl⟩
 rw [DQ] at b0 b3 DB;rw [hd] at b3;have Go:=hid (And.intro DQ hd);clear hj hk hrl hst hlt hD hp hnd hcd G6 D2 Do DM DQ hd;go_enter Tryz.func126,Tryz.ntmps126
 go_upto_region 1 with fail
 rw [Fz.out];go_upto_region 2 with fail
 go_cut [8] from 23 to 31 (fun v wx=>∃ g8,v=.pointer (some ⟨g8,0,none⟩)/\Hid (Blk wx g8 97 #[.int .u64 st,.bool dl,.int .u64 0,.int .u64 Ga]/\w.heap.size+1<=g8/\Blw W1 wx))
 case first =>
  have G2:Hid (∀ W,Blw W1 W->W.cell? ⟨w.heap.size,1,none⟩=some (.bool dl)/\W.cell? ⟨gh,0,none⟩=some (.pointer (some ⟨gw,0,none⟩))):=hid (fun W hW=>⟨(GI.out.below hW GI.out.lt).cell 1,by
   have h:=(HJ.out.below_ (GF.out.trans (hW.mono GF.out.size))).blk.cell 0;rw [Go.out.1] at h;exact h⟩)
  have Gf:Hid (Blw W1 W1.drew):=hid (Below.refl _ _).drew;refine z2g (fun w'=>w'.cell? ⟨w.heap.size,1,none⟩=some (.bool dl)/\w'.cell? ⟨gh,0,none⟩=some (.pointer (some ⟨gw,0,none⟩))) 11 4 [0,1,2,3,4,5,6] (by kernel_rfl) (by kernel_rfl) (by rfl) (by rfl) ⟨a1,b0⟩ ?_;intro ops HO;refine z0e HO.out (.int .u64 st) (by rfl) (by rfl) (fun w' hS=>?_) ?_
  ·go_simp
  simp only [Act.put,zD,zE,zF];refine z0e HO.out (.pointer (some ⟨w.heap.size,1,none⟩)) (by rfl) (by rfl) (fun w' hS=>?_) ?_
  ·go_simp
  simp only [Act.put,zD,zE,zF];refine z0e HO.out (.bool dl) (by rfl) (by rfl) (fun w' hS=>?_) ?_
  ·obtain ⟨s1,s2⟩:=hS
   go_simp
  simp only [Act.put,zD,zE,zF];refine z0e HO.out (.pointer (some ⟨gh,0,none⟩)) (by rfl) (by rfl) (fun w' hS=>?_) ?_
  ·go_simp
  simp only [Act.put,zD,zE,zF];refine z0e HO.out (.pointer (some ⟨gh,0,none⟩)) (by rfl) (by rfl) (fun w' hS=>?_) ?_
  ·go_simp
  simp only [Act.put,zD,zE,zF];refine z0e HO.out (.pointer (some ⟨gh,0,none⟩)) (by rfl) (by rfl) (fun w' hS=>?_) ?_
  ·go_simp
  simp only [Act.put,zD,zE,zF];refine z0e HO.out (.pointer (some ⟨gw,0,none⟩)) (by rfl) (by rfl) (fun w' hS=>?_) ?_
  ·obtain ⟨s1,s2⟩:=hS
   go_simp
  simp only [Act.put,zD,zE,zF];refine z1n HO.out (i:=7) (j:=9) (by kernel_rfl) (by rfl) (by rfl) ?_ ?_
  ·go_wp2_with (go_at_call 33;refine (DB.out _ GF.out.drew).mono ?_;rintro e w3 ⟨rfl,rfl⟩)
   refine ⟨⟨a1,b0⟩,?_⟩;refine z1n HO.out (i:=8) (j:=9) (by kernel_rfl) (by rfl) (by rfl) ?_ ?_
   ·go_wp2_with fail
    refine ⟨⟨a1,b0⟩,?_⟩;refine z0f HO.out (i:=9) (by kernel_rfl) (by rfl) ?_;go_wp2_with fail
    refine ⟨G2.out _ (Gf.out.drew.alloc Gf.out.drew.size _),?_⟩;refine z0f HO.out (i:=10) (by kernel_rfl) (by rfl) ?_;go_wp2_with fail
    refine ⟨G2.out _ (Gf.out.drew.alloc Gf.out.drew.size _),?_⟩;refine z1a HO.out (by kernel_rfl) ?_;refine NoPanic.normal ?_;go_wp2_with fail
    go_meet;exact ⟨_,rfl,hid ⟨Blk.new _ _ _,GI.out.lt,Gf.out.drew.alloc Gf.out.drew.size _⟩⟩
   ·go_wp2_with fail
    refine ⟨G2.out _ (Gf.out.drew.alloc Gf.out.drew.size _),?_⟩;refine z0f HO.out (i:=8) (by kernel_rfl) (by rfl) ?_;go_wp2_with fail
    refine ⟨G2.out _ (Gf.out.drew.alloc Gf.out.drew.size _),?_⟩;refine z0f HO.out (i:=10) (by kernel_rfl) (by rfl) ?_;go_wp2_with fail
    refine ⟨G2.out _ (Gf.out.drew.alloc Gf.out.drew.size _),?_⟩;refine z1a HO.out (by kernel_rfl) ?_;refine NoPanic.normal ?_;go_wp2_with fail
    go_meet;exact ⟨_,rfl,hid ⟨Blk.new _ _ _,GI.out.lt,Gf.out.drew.alloc Gf.out.drew.size _⟩⟩
  ·go_wp2_with fail
   refine ⟨G2.out _ (Gf.out.alloc Gf.out.size _),?_⟩;refine z0f HO.out (i:=7) (by kernel_rfl) (by rfl) ?_;go_wp2_with (go_at_call 33;refine (DB.out _ (GF.out.trans ((Gf.out.alloc Gf.out.size _).mono GF.out.size))).mono ?_;rintro e w3 ⟨rfl,rfl⟩)
   refine ⟨G2.out _ (Gf.out.alloc Gf.out.size _).drew,?_⟩;refine z0f HO.out (i:=8) (by kernel_rfl) (by rfl) ?_;go_wp2_with fail
   refine ⟨G2.out _ (Gf.out.alloc Gf.out.size _).drew,?_⟩;refine z0f HO.out (i:=10) (by kernel_rfl) (by rfl) ?_;go_wp2_with fail
   refine ⟨G2.out _ ((Below.refl _ _).alloc (nL _) _).drew.drew,?_⟩;refine z1a HO.out (by kernel_rfl) ?_;refine NoPanic.normal ?_;go_wp2_with fail
   go_meet;exact ⟨_,rfl,hid ⟨(Blk.new W1 97 _).drew.drew,GI.out.lt,((Below.refl _ _).alloc (nL _) _).drew.drew⟩⟩
 case rest =>
  obtain ⟨g8,rfl,hh⟩:=hcut;obtain ⟨Gx,Ff,DN⟩:=hh.out;have D6:=hid (GF.out.trans (DN.mono GF.out.size));have Dz:=GI.out.below DN GI.out.lt;have c0:_=some (Value.bool dl):=Dz.cell 1;obtain ⟨W9,D0⟩:∃ W9,wc.alloc (.cells #[.int .u64 st,.bool dl,.int .u64 0,.slice none 0 0,.slice none 0 0] 101)=W9:=⟨_,rfl⟩
  have D1:Blw wc W9:=by rw [<- D0];exact (Below.refl _ _).alloc (nL _) _
  have G5:Blk W9 wc.heap.size 101 #[.int .u64 st,.bool dl,.int .u64 0,.slice none 0 0,.slice none 0 0]:=by rw [<- D0];exact Blk.new _ _ _
  have Fb:=hid D0;have GX:=hid G5;have DV:=hid (Gx.below D1 Gx.lt);have DT:=hid (Dz.below D1 Dz.lt);have DU:=hid (D6.out.trans (D1.mono D6.out.size));have HG:=hid (show w.heap.size+1<=g8/\g8 < wc.heap.size from ⟨Ff,Gx.lt⟩);have e1:W9.cell? ⟨w.heap.size,1,none⟩=some (.bool dl):=DT.out.cell 1;obtain ⟨g9,Fg⟩:∃ g9,wc.heap.size=g9:=⟨_,rfl⟩
  clear hh Gx DN Ff Dz D1 G5 D0 a1 b0 b3 D6;go_upto_region 4 with fail
  rw [Fb.out];rw [Fg] at GX HG;clear Fb c0 Fg;go_upto_if 38 with fail
  go_cut [10] from 39 to 63 (fun v wx=>∃ (bl p2:List Nat) (G7:Option Addr) (Gz GA:Nat) (Bb:Option Addr) (nb cb:Nat) (Dd:Option Addr) (nD cD T1 N1:Nat) (Fc:Nat->CS) (f1:Nat->Option Nat) (S1:Fp) (Dn:Nat->Nat) (DK:List Nat),v=.slice G7 Gz GA/\Hid (AddM w0.heap.size k z st dl Ga g8 g9 bl p2 G7 Gz GA Bb nb cb Dd nD cD w wx T1 N1 Fc f1 S1 Dn DK)/\Hid (p2=if dl=true then [] else p.take 500))
  case first =>
   cases dl
   ·have e2:W9.cell? ⟨w.heap.size,2,none⟩=some (.slice D nd cd):=DT.out.cell 2
    have y4:W9.cell? ⟨g9,4,none⟩=some (.slice none 0 0):=GX.out.cell 4;have x4:W9.frozen? ⟨g9,4,none⟩=false:=GX.out.frozen 4;have F5:(nd:Int)<=(cd:Int):=by have:=Gb.out;omega
    obtain ⟨M,hM⟩:∃ M:Nat,min nd 500=M:=⟨_,rfl⟩
    have HM:=hid (show M<=nd/\M<=500/\(nd<=500->M=nd)/\(500<=nd->M=500) by omega);have FL:(if (500:Int) < (nd:Int) then (500:Int) else (nd:Int))=(M:Int):=by split <;> omega
    have FJ:(0:Int)<=(M:Int):=oM;have FK:(M:Int)<=(cd:Int):=by have:=HM.out;omega
    clear hM;obtain ⟨Gr,Gu⟩:∃ Gr,W9.setCell ⟨g9,4,none⟩ (.slice D M cd)=Gr:=⟨_,rfl⟩
    have Dq:Chg (fun i=>i=g9) W9 Gr:=by rw [<- Gu];exact (Chg.refl (fun i=>i=g9) W9).setCell (p:=⟨g9,4,none⟩) (.inl rfl) _
    have G5:Blk Gr g9 101 #[.int .u64 st,.bool false,.int .u64 0,.slice none 0 0,.slice D M cd]:=by rw [<- Gu];exact GX.out.set_ 4 _
    have Gx:=Dq.blk DV.out (show ¬ g8=g9 by have:=HG.out;omega);have Gt:Blw w Gr:=by rw [<- Gu];exact DU.out.setCell (p:=⟨g9,4,none⟩) (by have:=HG.out;show w.heap.size<=g9;omega) _
    have DI:=hid Gu;have Gp:=hid G5;have G8:=hid Gx;have D5:=hid Gt;have F6:p.length=nd:=by have h1:=HD.out.1.1;simpa [u8s] using h1
    have D7:Hid (z0c w0 w0.heap.size 1 D M (u8s (p.take M))):=hid (by
     have h1:=HD.out.1.take_ (m:=M) (by have:=HM.out;omega);rw [Nat.mul_one] at h1;have e:(u8s p).take M=u8s (p.take M):=by unfold u8s;rw [List.map_take]
     rw [e] at h1;exact h1)
    have GL:Hid (p.take M=p.take 500/\(p.take M).length=M/\∀ b∈p.take M,b < 256):=hid ⟨by
     obtain ⟨m1,m2,m3,m4⟩:=HM.out;rcases Nat.le_total nd 500 with h | h
     ·rw [m3 h,List.take_of_length_le oM,List.take_of_length_le oM]
     ·rw [m4 h],by rw [List.length_take];have:=HM.out;omega,fun b hb=>HD.out.2 b (List.mem_of_mem_take hb)⟩
    have Dy:=hid (x9r (HJ.out.bw.sd.below Gt) z.al HJ.out.cap D M cd (p.take M) ((D7.out.below (HJ.out.below.trans (Gt.mono HJ.out.below.size))).more (HJ.out.below.trans (Gt.mono HJ.out.below.size)).size) (fun hn ad h hs=>by
     obtain ⟨FH,e,hb,_⟩:=D7.out.2 hn;rw [h] at e;injection e with e
     subst e;have:=HJ.out.old _ hs;omega) GL.out.2.2 (by have:=HM.out;omega) (by have:=HM.out;have:=Gb.out;omega) Gb.out.2.2.2 (by
     have h1:=x2b (k:=k) (j:=1) (by have:=Gb.out;omega) (HJ.out.room.blob (n:=(p.take M).length) (by rw [GL.out.2.1];have:=HM.out;omega));rw [GL.out.2.1] at h1;exact h1) (by have:=HJ.out.nm;have:=Gb.out;omega) (by have:=HJ.out.tm;have:=Gb.out;omega))
    unfold dirV at Dy;rw [Go.out.2] at Dy;have DJ:Hid (Calls Tryz.prog 21 #[.iface 59 (.pointer (some ⟨d,0,none⟩)),.slice D M cd] Gr fun e w1=>∃ (q:Nat) (A':Option Addr) (m' c':Nat),e=.returned (.tuple #[.int .u64 q,.slice A' m' c',.int .i64 0])/\Hid (∃ (bl:List Nat) (Gs:Nat->CS) (f2:Nat->Option Nat) (S2:Fp) (Gg:Nat->Nat),q=bl.headD 0/\bl.length=nBlk (p.take M).length/\m'=bl.length/\z0c w1 w1.heap.size 1 A' m' (z0a bl)/\(∀ ad,A'=some ad->Gr.heap.size<=ad.block/\¬ sfp S2 z.x ad.block)/\W2 53 10 z.cs z.f z.cur z.al (p.take M) Gs f2 Gg bl bl.length/\SD z.a 373 (z.T+3000) 53 (32 * 10) 10 z.x Gs f2 (z.N+bl.length) (z.m+bl.length) z.b0 S2 Gg w1 z.y.d z.y.r/\Chg (sfp z.S z.x) Gr w1/\Grew z.S S2 Gr/\m'<=c'/\w1.ownsRow (Gr.heap.size+2) 54 1 (.slice A' m' c') m' (z0a bl))):=hid (Dy.out.mono (fun e w1 h=>by
     obtain ⟨bl,A',m',c',Gs,f2,S2,Gg,h1,h2,h3,h4,h5,h6,h7,h8,h9,F0,F1⟩:=h;refine ⟨_,A',m',c',h1,hid ⟨bl,Gs,f2,S2,Gg,rfl,h2,h3,h4,h5,h6,?_,h8,h9,F0,F1⟩⟩;rw [Go.out.2];exact h7))
    clear Dy Dq G5 Gx Gt Gu F6;go_upto_region 7 with fail
    rw [DI.out];have f4:Gr.cell? ⟨g9,4,none⟩=some (.slice D M cd):=Gp.out.cell 4;go_wp2_with (go_at_call 21;refine DJ.out.mono ?_;rintro e w11 ⟨q,A',m',c',rfl,Gi⟩;refine stop ?_)
    unfold Stop;obtain ⟨bl,Gs,f2,S2,Gg,hq,Gj,hm,Fl,Gc,Dx,Dw,GO,Dt,F4,Gy⟩:=Gi.out;have DG:=hid (y9z A' m' c' bl w11 Fl (by have h1:=y0l (p:=p.take M) (by have h1:=GL.out.2.1;have h2:=HM.out;omega);omega));have D4:=hid (show _/\_/\_/\_/\_/\_/\_/\_/\_ from ⟨hq,Gj,hm,Gc,Dx,Dw,GO,Dt,Gy⟩);clear Gi hq Gj hm Fl Gc Dx Dw GO Dt F4 Gy f4 e2 y4 x4;go_wp2_with (go_at_call 51;refine DG.out.mono ?_;rintro e w12 ⟨FG,FI,rfl,Dv,Dp⟩;have DF:=hid Dv;have GG:=hid Dp;clear Dv Dp;refine stop ?_)
    unfold Stop;obtain ⟨hq,Gj,hm,Gc,Dx,Dw,GO,Dt,Gy⟩:=D4.out;have Gx:=(GO.blk G8.out (HJ.out.fresh (by have:=HG.out;omega)))
    have G5:=(GO.blk Gp.out (HJ.out.fresh (by have:=HG.out;omega)))
    have GR:=Gx.below GG.out Gx.lt;have GS:=G5.below GG.out G5.lt;have y2:w12.cell? ⟨g8,2,none⟩=some (.int .u64 0):=GR.cell 2;have x2:w12.frozen? ⟨g8,2,none⟩=false:=GR.frozen 2;have y3:w12.cell? ⟨g9,3,none⟩=some (.slice none 0 0):=GS.cell 3;have x3:w12.frozen? ⟨g9,3,none⟩=false:=GS.frozen 3;have FM:g8≠g9:=by have:=HG.out;omega
    have HF:=hid (AddM.some_ HJ.out D5.out G8.out Gp.out HG.out D7.out (by rw [GL.out.2.1];have:=HM.out;omega) GL.out.2.2 (by have:=HM.out;have:=Gb.out;omega) hq Gj hm Gc Dx Dw GO Dt Gy DF.out GG.out);clear hq Gj hm Gc Dx Dw GO Dt Gy Gx G5 GR GS;go_wp2_with fail
    go_meet;exact ⟨bl,p.take M,_,_,_,_,_,_,_,_,_,_,_,_,_,_,_,_,rfl,HF,hid (by rw [if_neg (by decide)];exact GL.out.1)⟩
   ·go_wp2_with fail
    go_meet;refine ⟨[],[],none,0,0,none,0,0,none,0,0,_,_,_,_,_,_,_,rfl,hid ⟨AddA.none HJ.out DU.out,World.ownsRow_nil _ _ _ _,DV.out,GX.out,⟨HJ.out.fresh (by have:=HG.out;omega),HJ.out.fresh (by have:=HG.out;omega),by have:=HG.out;omega,by have:=HG.out;omega⟩,fun g hg=>(by cases hg),⟨rfl,fun h=>absurd h (Nat.lt_irrefl 0)⟩,⟨rfl,fun h=>absurd h (Nat.lt_irrefl 0)⟩,fun h=>absurd h (Nat.lt_irrefl 0),fun h=>absurd h (Nat.lt_irrefl 0),fun g hg=>(by cases hg),nL _,fun b hb=>absurd hb (by simp),Nat.zero_le _,fun h=>absurd h (Nat.lt_irrefl 0),fun h=>absurd h (Nat.lt_irrefl 0)⟩,hid rfl⟩
  case rest =>
   obtain ⟨bl,p2,G7,Gz,GA,Bb,nb,cb,Dd,nD,cD,T1,N1,Fc,f1,S1,Dn,DK,rfl,HM,HP⟩:=hcut;have hM:=HM.out;obtain ⟨Dr,Ds⟩:=hM.add.dt_ok;have Fj:z4p st dl (bl.headD 0)=true:=by
    unfold z4p;rw [decide_eq_true Gb.out.2.1,Bool.true_and,<- Dr];simp
   have DY:Hid (Calls Tryz.prog 246 #[.iface 59 (.pointer (some ⟨d,0,none⟩)),.agg #[.int .u64 st,.bool dl,.int .u64 (bl.headD 0:Int),.int .u64 Ga]] wc fun e w1=>∃ q:Nat,e=.returned (.tuple #[.int .u64 q,.int .i64 0])/\Hid (∃ Gs f2 S2 Gg,AddB k z st dl bl p2 Ga q w w1 (T1+400+200) (N1+1) Gs f2 S2 Gg (0 :: DK)/\Chg (sfp S1 z.x) wc w1/\Grew S1 S2 wc)):=hid (by
    have h0:=w3g hM.add.sd st dl (bl.headD 0) Ga Fj Gb.out.2.1 Ds GZ.out.2 (by have:=hM.add.nm;have:=HJ.out.nm;have:=Gb.out;omega) (by have:=hM.add.tm;have:=HJ.out.tm;have:=Gb.out;omega) (hM.add.cap_has Gb.out.1);rw [Go.out.2] at h0;refine h0.mono (fun e w1 h=>?_);obtain ⟨kk,ii,S2,Gs,Gg,h1,h2,h3,h4,h5,h6,h7⟩:=h;obtain ⟨q,hq⟩:∃ q,fptr 53 Gs 7 kk ii=q:=⟨_,rfl⟩
    rw [hq] at h1 h3 h6 h7;refine ⟨q,h1,hid ⟨Gs,_,S2,_,hM.add.plan hq h2 ?_ h4 h5 h6 h7,h4,h5⟩⟩;rw [Go.out.2];exact h3)
   have g0:_=some (Value.int .u64 st):=hM.v8.cell 0;have g1:_=some (Value.bool dl):=hM.v8.cell 1;have g2:_=some (Value.int .u64 (bl.headD 0:Int)):=hM.v8.cell 2;have g3:_=some (Value.int .u64 Ga):=hM.v8.cell 3;obtain ⟨dt,Fe⟩:∃ dt,bl.headD 0=dt:=⟨_,rfl⟩
   rw [Fe] at DY g2;clear hM Dr Ds Fj e1 Fe;go_wp2_with (go_at_call 246;refine DY.out.mono ?_;rintro e w13 ⟨q,rfl,Gi⟩;refine stop ?_)
   unfold Stop;obtain ⟨Gs,f2,S2,Gg,hB,Gm,Gw⟩:=Gi.out;have HB:=hid hB;have Fm:=hid Gm;have Fq:=hid Gw;have Fw:Hid (RvIn S2 z.x w13 ⟨⟨st,dl,q,bl,p2⟩,Bb,nb,cb,Dd,nD,cD⟩):=hid (RvIn.move (S:=S1) ⟨HM.out.rb,HM.out.rdd,HM.out.ob,HM.out.od,HM.out.cdd⟩ Gm Gw);have GJ:=hid (Gm.blk HM.out.v9 HM.out.off.2.1);have Db:=hid (Gm.own HM.out.own (fun g hg=>(HM.out.offk g hg).1));have DW:=hid (z9t q);rw [hB.q_ok.2.2,show ((7:Nat):Int)=7 from rfl] at DW;have DP:w13.cell? ⟨gh,0,none⟩=some (.pointer (some ⟨gw,0,none⟩)):=by
    have h1:=(hB.chg.blk HJ.out.blk HJ.out.offg).cell 0;rw [Go.out.1] at h1;exact h1
   have F7:=hB.q_ok.2.1;obtain ⟨i0,F2,FB,FC,FD⟩:=info_parts z8c;have Fy:Hid (w.heap.size<=w13.heap.size):=hid hB.chg.size;have Fs:Hid (∀ g,(Value.slice G7 Gz GA).ownBlock=some g->¬ sfp S2 z.x g/\w.heap.size<=g/\g < w13.heap.size/\g≠g9):=hid (fun g hg=>by
    obtain ⟨k1,k2,k3⟩:=HM.out.offk g hg;have h1:=HM.out.own.lt g hg;have h2:=Gm.size;refine ⟨fun hz=>?_,h1.1,oM,k3⟩;rcases hz with e | e
    ·rcases Gw g e with e1 | e1
     ·exact k1 (.inl e1)
     ·omega
    ·exact k1 (.inr e))
   have GV:Hid (¬ sfp S2 z.x g9/\w.heap.size<=g9/\g9 < w13.heap.size):=hid ⟨fun hz=>by
    have h1:=HM.out.v9.lt;rcases hz with e | e
    ·rcases Gw g9 e with e1 | e1
     ·exact HM.out.off.2.1 (.inl e1)
     ·omega
    ·exact HM.out.off.2.1 (.inr e),HM.out.off.2.2.2,GJ.out.lt⟩
   clear Gi hB Gm Gw g0 g1 g2 g3;go_upto_region 12 with fail
   refine z0g (fun w'=>w'.cell? ⟨gh,0,none⟩=some (.pointer (some ⟨gw,0,none⟩))) 22 [] [(1,0),(1,1),(1,2),(1,3),(0,4),(1,5),(1,6),(1,7),(1,8),(1,9),(1,10),(1,11),(1,12),(1,13),(1,14),(1,15),(1,16),(0,17),(0,18),(0,19),(1,20),(1,21)] (by kernel_rfl) (by kernel_rfl) DP ?_;refine tkG (.int .i64 0) ?_;refine tkG (.bool false) ?_;refine tkG (.bool false) ?_;refine tkG (.int .u64 q) ?_;refine z0b (by rfl) ?_;go_wp2_with (go_at_call 150;refine (DW.out _).mono ?_;rintro e w14 ⟨rfl,rfl⟩)
   refine ⟨DP,?_⟩;refine tkG (.bool false) ?_;refine tkG (.bool false) ?_;refine tkG (.bool false) ?_;refine tkG (.pointer (some ⟨gh,0,none⟩)) ?_;refine tkG (.pointer (some ⟨gh,0,none⟩)) ?_;refine tkG (.pointer (some ⟨gh,0,none⟩)) ?_;refine tkG (.pointer (some ⟨gw,0,none⟩)) ?_;refine tkG (.pointer (some ⟨d,0,none⟩)) ?_;refine tkG (.iface 59 (.pointer (some ⟨d,0,none⟩))) ?_;refine tkG (.int .u64 q) ?_;refine tkG (.slice G7 Gz GA) ?_;refine tkG (.int .u64 q) ?_;refine z0b (by rfl) ?_;go_wp2_with fail
   have Gl:Blw w13 (w13.alloc (.cells #[.int .u64 q] 54)).drew:=((Below.refl w13.heap.size w13).alloc (nL _) _).drew;have GH:=hid (HB.out.below_ Gl);have Dg:=hid (Fw.out.move (Chg.of_below Gl) (Grew.refl _ _));have GY:=hid (GJ.out.below Gl GJ.out.lt);have DC:=hid (z0r Db.out Gl);have GB:((w13.alloc (.cells #[.int .u64 q] 54)).drew).cell? ⟨gh,0,none⟩=some (.pointer (some ⟨gw,0,none⟩)):=by
    have h1:=(GH.out.chg.blk HJ.out.blk HJ.out.offg).cell 0;rw [Go.out.1] at h1;exact h1
   have GU:Hid (bl.length=Gz/\Gz<=10):=hid (by
    have h1:=Db.out.1;simp only [z0a,List.length_map] at h1;have h2:=HB.out.blen;have h3:=y0l (p:=p2) HM.out.pl;split at h2 <;> omega)
   have Dl:Hid (w13.heap.size<=((w13.alloc (.cells #[.int .u64 q] 54)).drew).heap.size):=hid Gl.size;have GE:z0c ((w13.alloc (.cells #[.int .u64 q] 54)).drew) ((w13.alloc (.cells #[.int .u64 q] 54)).drew).heap.size 1 (some ⟨w13.heap.size,0,none⟩) 1 (z0a [q]):=(y0x w13 #[.int .u64 q] 54 [q] rfl).below (Below.refl _ _).drew;have Df:=hid GE;refine ⟨GB,?_⟩;clear Gl GB GE DP;generalize hW14:(w13.alloc (.cells #[.int .u64 q] 54)).drew=w14 at *;clear hW14;refine z0b (by rfl) ?_;refine z3y _ (.tmp 86) (.tmp 88) 40 rfl rfl w.heap.size 54 i0 _ 1 8 Tryz.underlying40 F2 FB FC FD rfl Nat.one_pos (.slice G7 Gz GA) Gz (z0a bl) rfl DC.out _ (some ⟨w13.heap.size,0,none⟩) 1 1 (z0a [q]) rfl Df.out (z2z _) ?_ ?_ ?_ ?_
   ·have:=GU.out;unfold maxLen;omega
   ·have:=GU.out;omega
   ·have h1:=Fy.out;have h2:=Dl.out;omega
   intro A15 n15 c15 w15 hn15 ho15 hg15 hv15;have GK:=hid hn15;have DD:=hid ho15;have D8:=hid hg15;have DH:=hid hv15;clear hn15 ho15 hg15 hv15;go_wp2_with fail
   have Du:=Fs.out;have Gk:Chg (fun i=>(Value.slice G7 Gz GA).ownBlock=some i) w14 w15:=(Chg.refl (fun i=>(Value.slice G7 Gz GA).ownBlock=some i) w14).grown D8.out (fun g hg => .inl hg);have Gh:=hid (GH.out.chg_ HJ.out Gk (fun i hi=>⟨fun e=>(Du i hi).1 (.inl e),(Du i hi).2.1⟩));have Dh:=hid (Dg.out.chg Gk (fun hn ad Gc hz=>((HM.out.ne _ hz).1 hn ad Gc) rfl) (fun hn ad Gc hz=>((HM.out.ne _ hz).2 hn ad Gc) rfl));have G9:=hid (Gk.blk GY.out (fun hz=>(Du _ hz).2.2.2 rfl));have GC:w15.cell? ⟨gh,0,none⟩=some (.pointer (some ⟨gw,0,none⟩)):=by
    have h1:=(Gh.out.chg.blk HJ.out.blk HJ.out.offg).cell 0;rw [Go.out.1] at h1;exact h1
   have Da:Hid (w15.ownsRow w.heap.size 54 1 (.slice A15 n15 c15) n15 (z0a (bl++[q]))):=hid (by
    have e1:z0a (bl++[q])=z0a bl++z0a [q]:=by simp [z0a]
    rw [e1];exact DD.out)
   have Fx:Hid (Calls Tryz.prog 36 #[.pointer (some ⟨gw,0,none⟩),.iface 59 (.pointer (some ⟨d,0,none⟩)),.int .i64 0,.int .u64 q,.slice A15 n15 c15] w15 fun e w1=>e=.returned (.int .i64 0)/\Hid (∃ z',HsJ w0 (k+1) gh rl (⟨st,dl,q,bl,p2⟩ :: vvs rl) z' w1/\z'.a=z.a/\z'.x=z.x/\z'.y=z.y/\z'.A=z.A/\z'.n=z.n/\z'.c=z.c/\Chg (sfp S2 z.x) w15 w1/\Grew S2 z'.S w15)):=hid (by
    have Gj:(bl++[q]).length=n15:=by
     have h1:=GK.out;have h2:=GU.out.1;rw [List.length_append,List.length_singleton];omega
    have h0:=w6h Gh.out.sd HJ.out.bw.few gw 0 q (by decide) Gh.out.q_ok.2.1 A15 n15 c15 (bl++[q]) (z0c.of_own Da.out) (fun ad Gc hz=>by
     have Fi:(Value.slice A15 n15 c15).ownBlock=some ad.block:=by rw [Gc];rfl
     rcases DH.out with e | e
     ·rw [Fi] at e
      exact (Du ad.block e.symm).1 hz
     ·rw [Fi] at e
      injection e with e
      have:=x2f GH.out.sd hz;omega) Gh.out.keep_ok Gh.out.prep.nd (by rw [Gj];have:=GK.out;have:=GU.out;omega) (by have:=Gh.out.tm;have:=HJ.out.tm;have:=Gb.out;omega) (by have:=Gh.out.nm;have:=HJ.out.nm;have:=Gb.out;have:=GK.out;have:=GU.out;omega)
    unfold dirV at h0;rw [Go.out.2] at h0;refine h0.mono (fun e w1 h=>?_);have he:e=.returned (.int .i64 0):=by obtain ⟨ks,V,cm,S',h1,_⟩:=h;exact h1
    refine ⟨he,hid ?_⟩;refine Gh.out.set (e:=e) HJ.out GZ.out.1.symm Gb.out.2.1 Ft.out HM.out.pb HM.out.pl Gj.symm ?_;rw [Go.out.2];exact h)
   refine ⟨GC,?_⟩;clear Du Gk GC;refine z0b (by rfl) ?_;go_wp2_with (go_at_call 36;refine Fx.out.mono ?_;rintro e w16 ⟨rfl,Gi⟩)
   obtain ⟨z',GQ,ea,ex,ey,eA,en,ec,G4,GP⟩:=Gi.out;have D9:=hid GQ;have HE:=hid (show z'.a=z.a/\z'.x=z.x/\z'.y=z.y/\z'.A=z.A/\z'.n=z.n/\z'.c=z.c from ⟨ea,ex,ey,eA,en,ec⟩);have Di:=hid (Dh.out.move G4 GP);have Gq:=hid (G4.blk G9.out GV.out.1);have GW:Hid (¬ sfp z'.S z.x g9):=hid (fun hz=>by
    have h1:=G9.out.lt;rcases hz with e | e
    ·rcases GP g9 e with e1 | e1
     ·exact GV.out.1 (.inl e1)
     ·omega
    ·exact GV.out.1 (.inr e))
   have GD:w16.cell? ⟨gh,0,none⟩=some (.pointer (some ⟨gw,0,none⟩)):=by
    have h1:=GQ.blk.cell 0;rw [ey,Go.out.1] at h1;exact h1
   have y2:w16.cell? ⟨g9,2,none⟩=some (.int .u64 0):=Gq.out.cell 2;have x2:w16.frozen? ⟨g9,2,none⟩=false:=Gq.out.frozen 2;have DZ:Hid (w15.heap.size<=w16.heap.size):=hid G4.size;clear Gi GQ ea ex ey eA en ec G4 GP;refine ⟨GD,?_⟩;clear GD;refine tkG (.bool false) ?_;refine tkG (.bool false) ?_;show wpList _ _ _ _ _ _;simp only [List.drop_succ_cons,List.drop_zero];refine NoPanic.normal ?_;obtain ⟨Ge,G3⟩:∃ Ge,w16.setCell ⟨g9,2,none⟩ (.int .u64 q)=Ge:=⟨_,rfl⟩
   have GN:Chg (fun i=>i=g9) w16 Ge:=by rw [<- G3];exact (Chg.refl (fun i=>i=g9) w16).setCell (p:=⟨g9,2,none⟩) (.inl rfl) _
   have Dm:=hid G3;have Gd:Hid (Blk Ge g9 101 #[.int .u64 st,.bool dl,.int .u64 q,.slice Bb nb cb,.slice Dd nD cD]):=hid (by rw [<- G3];exact Gq.out.set_ 2 _);have G1:=hid (D9.out.chg_ GN (fun i hi=>by
    have ei:i=g9:=hi;subst ei;obtain ⟨-,ex,ey,eA,en,ec⟩:=HE.out;have h1:=HJ.out.blk.lt;have h2:=GV.out.2.1;refine ⟨by rw [ex];exact GW.out,oM,fun hn ad Gc=>?_,fun r hr=>?_⟩
    ·rw [en] at hn
     rw [eA] at Gc;have:=(HJ.out.offA hn ad Gc).1;omega
    ·obtain ⟨-, -,r3,r4, -⟩:=HJ.out.rin r hr
     exact ⟨fun hn ad Gc=>by have:=(r3 hn ad Gc).1;omega,fun hn ad Gc=>by have:=(r4 hn ad Gc).1;omega⟩))
   have Dj:=hid (Di.out.chg GN (fun hn ad Gc hz=>(HM.out.nb9 hn ad Gc).2 hz) (fun hn ad Gc hz=>by
    have ei:ad.block=g9:=hz;have h1:=HM.out.nd9 hn ad Gc;have h2:=GV.out.2.1;have h3:=HJ.out.below.size;omega))
   clear G3 GN;have Fa:Hid (w16.heap.size<=Ge.heap.size):=hid (by rw [<- Dm.out];simp);have DO:Ge.cell? ⟨gh,1,none⟩=some (.slice z.A z.n z.c):=by
    have h1:=G1.out.blk.cell 1;obtain ⟨-, -, -,eA,en,ec⟩:=HE.out;rw [eA,en,ec] at h1;exact h1
   obtain ⟨A0,DL⟩:∃ A0,z.A=A0:=⟨_,rfl⟩
   obtain ⟨n0,D3⟩:∃ n0,z.n=n0:=⟨_,rfl⟩
   obtain ⟨c0,Fd⟩:∃ c0,z.c=c0:=⟨_,rfl⟩
   rw [DL,D3,Fd] at DO;have Dc:Hid (z0c Ge Ge.heap.size 5 A0 n0 (z0u rl)):=hid (by
    have h1:=G1.out.rd;obtain ⟨-, -, -,eA,en, -⟩:=HE.out;rw [eA,en,DL,D3] at h1;exact h1)
   have DX:Hid (n0<=8):=hid (by
    have h1:=z5l HJ.out.rd;rw [D3] at h1;have h2:=Fv.out;omega)
   have Gn:=hid G1.out.blk;have v0:Ge.cell? ⟨g9,0,none⟩=some (.int .u64 st):=Gd.out.cell 0;have v1:Ge.cell? ⟨g9,1,none⟩=some (.bool dl):=Gd.out.cell 1;have v2:Ge.cell? ⟨g9,2,none⟩=some (.int .u64 q):=Gd.out.cell 2;have v3:Ge.cell? ⟨g9,3,none⟩=some (.slice Bb nb cb):=Gd.out.cell 3;have v4:Ge.cell? ⟨g9,4,none⟩=some (.slice Dd nD cD):=Gd.out.cell 4;obtain ⟨j0,F3,F8,F9,FA⟩:=info_parts w8a;clear DL D3 Fd;go_upto_region 15 with fail
   rw [Dm.out];refine z0g (fun w'=>w'.cell? ⟨gh,1,none⟩=some (.slice A0 n0 c0)/\w'.cell? ⟨g9,0,none⟩=some (.int .u64 st)/\w'.cell? ⟨g9,1,none⟩=some (.bool dl)/\w'.cell? ⟨g9,2,none⟩=some (.int .u64 q)/\w'.cell? ⟨g9,3,none⟩=some (.slice Bb nb cb)/\w'.cell? ⟨g9,4,none⟩=some (.slice Dd nD cD)) 10 [] [(1,0),(1,1),(1,3),(1,4),(1,5),(1,6),(0,2),(0,7),(1,8),(1,9)] (by kernel_rfl) (by kernel_rfl) ⟨DO,v0,v1,v2,v3,v4⟩ ?_;refine tkG (.pointer (some ⟨gh,0,none⟩)) ?_;refine tkH (.agg #[.int .u64 st,.bool dl,.int .u64 q,.slice Bb nb cb,.slice Dd nD cD]) (fun w' hS=>?_) ?_
   ·obtain ⟨s0,s1,s2,s3,s4,s5⟩:=hS
    go_simp
   refine tkG (.pointer (some ⟨gh,0,none⟩)) ?_;refine tkG (.pointer (some ⟨gh,0,none⟩)) ?_;refine tkG (.pointer (some ⟨gh,1,none⟩)) ?_;refine tkH (.slice A0 n0 c0) (fun w' hS=>?_) ?_
   ·obtain ⟨s0,s1,s2,s3,s4,s5⟩:=hS
    go_simp
   refine z0b (by rfl) ?_;go_wp2_with fail
   have Gv:Blw Ge (Ge.alloc (.cells #[.int .u64 st,.bool dl,.int .u64 q,.slice Bb nb cb,.slice Dd nD cD] 101)).drew:=((Below.refl _ _).alloc (nL _) _).drew;have Fk:(Ge.alloc (.cells #[.int .u64 st,.bool dl,.int .u64 q,.slice Bb nb cb,.slice Dd nD cD] 101)).drew.ownsRow Ge.heap.size 101 5 (.slice (some ⟨Ge.heap.size,0,none⟩) 1 1) 1 (z0u [⟨⟨st,dl,q,bl,p2⟩,Bb,nb,cb,Dd,nD,cD⟩]) :=
    z0r ⟨rfl,.inr ⟨Ge.heap.size,1,#[.int .u64 st,.bool dl,.int .u64 q,.slice Bb nb cb,.slice Dd nD cD],rfl,nL _,heap_alloc_new _ _,nL _,by unfold maxLen;omega,rfl,rfl⟩⟩ (Below.refl _ _).drew
   have GT:=hid Gv;have Fu:=hid Fk;have De:=hid ((Dc.out.below Gv).more Gv.size);have GM:∀ W,Blw Ge W->W.cell? ⟨gh,1,none⟩=some (.slice A0 n0 c0)/\W.cell? ⟨g9,0,none⟩=some (.int .u64 st)/\W.cell? ⟨g9,1,none⟩=some (.bool dl)/\W.cell? ⟨g9,2,none⟩=some (.int .u64 q)/\W.cell? ⟨g9,3,none⟩=some (.slice Bb nb cb)/\W.cell? ⟨g9,4,none⟩=some (.slice Dd nD cD):=fun W hW=>by
    have h1:=Gd.out.below hW Gd.out.lt;refine ⟨?_,h1.cell 0,h1.cell 1,h1.cell 2,h1.cell 3,h1.cell 4⟩;rw [<- DO];exact hW.cell (p:=⟨gh,1,none⟩) Gn.out.lt
   have Dk:=hid GM;refine ⟨GM _ Gv,?_⟩;clear Gv Fk GM;generalize hW18:(Ge.alloc (.cells #[.int .u64 st,.bool dl,.int .u64 q,.slice Bb nb cb,.slice Dd nD cD] 101)).drew=w18 at *;clear hW18;refine z0b (by rfl) ?_;refine z0p _ (.tmp 97) (.tmp 101) 90 rfl rfl Ge.heap.size 101 j0 _ 5 72 Tryz.underlying90 F3 F8 F9 FA rfl oM (.slice (some ⟨Ge.heap.size,0,none⟩) 1 1) 1 (z0u [⟨⟨st,dl,q,bl,p2⟩,Bb,nb,cb,Dd,nD,cD⟩]) rfl Fu.out _ A0 n0 c0 (z0u rl) rfl De.out (x0g _) ?_ ?_ ?_ ?_
   ·have:=DX.out;unfold maxLen;omega
   ·have:=DX.out;omega
   ·exact GT.out.size
   intro A19 n19 c19 w19 hn19 ho19 hg19 hb19;have DE:=hid ho19;have G0:=hid (GT.out.trans hb19);clear hn19 ho19 hg19 hb19;go_wp2_with fail
   refine ⟨Dk.out _ G0.out,?_⟩;have Fh:=Gn.out.below G0.out Gn.out.lt;have FF:w19.frozen? ⟨gh,1,none⟩=false:=Fh.frozen 1;have FE:w19.cell? ⟨gh,1,none⟩=some (.slice A0 n0 c0):=(Dk.out _ G0.out).1;clear Fh;refine tkG (.pointer (some ⟨gh,0,none⟩)) ?_;refine tkG (.pointer (some ⟨gh,1,none⟩)) ?_;show wpList _ _ _ _ _ _;simp only [List.drop_succ_cons,List.drop_zero];go_wp2_with fail
   refine NoPanic.normal ?_;have HF:=hid (G1.out.push (r:=⟨⟨st,dl,q,bl,p2⟩,Bb,nb,cb,Dd,nD,cD⟩) (by obtain ⟨-,ex, -⟩:=HE.out;have h1:=Dj.out;rw [<- ex] at h1;exact h1) G0.out DE.out (fun hn ad Gc=>by
    have h1:=(HM.out.nb9 hn ad Gc).1;have h2:=HJ.out.blk.lt;omega) (fun hn ad Gc=>by
    have h1:=HM.out.nd9 hn ad Gc;have h2:=HJ.out.ghl;omega))
   have Fo:Hid (w3m w0 k gh rl z st dl p (w19.setCell ⟨gh,1,none⟩ (.slice A19 n19 c19))):=hid ⟨_,_,HF.out,rfl,rfl,HP.out,HE.out.1,HE.out.2.2.1⟩;clear FF FE;go_wp2_with fail
   go_ret;exact ⟨rfl,Fo⟩
end
end
section
open Go.RowKit Go.Maps
theorem y7b (h:Nat) (w:World):Calls Tryz.prog 107 #[.pointer (some ⟨h,0,none⟩)] w fun e w'=>e=.returned (.func (.func 206) #[] #[.pointer (some ⟨w.heap.size,0,none⟩)])/\w'=w.alloc (.cells #[.pointer (some ⟨h,0,none⟩)] 29):=by
 have Ga:∀ (fn:Fn) (first cap:Array Value) (w:World),(Instr.makeFunc fn first cap).run Tryz.prog w=.ok (.func fn first cap) w:=fun _ _ _ _=>rfl
 go_enter Tryz.func107,Tryz.ntmps107
 go_wp2;go_ret;exact ⟨rfl,rfl⟩
theorem y7e {W w1:World} {n₀ B:Nat} {size:Nat} {v v':Value} {k:Nat} {xs:List Value} {tmp:Obj} (hv:Boxed W B 40 v) (hrow:W.ownsRow n₀ 54 size v k xs) (hgrow:(W.alloc tmp).grownBy w1 v.ownBlock) (hb:Below n₀ W (w1.setCell ⟨B,0,none⟩ v')):KpT n₀ W (w1.setCell ⟨B,0,none⟩ v'):=by
 refine ⟨hb,fun j cs t ht hj=>?_⟩;have h1:j≠B:=fun e=>by
  subst e;have h2:=(show W.heap[j]?=_ from hv).symm.trans hj;simp at h2;obtain ⟨_,h3⟩:=h2;subst h3;revert ht;decide
 have h2:some j≠v.ownBlock:=fun e=>by
  rcases hrow.2 with ⟨rfl,_⟩ | ⟨g,cap,cur,rfl,_,hgb,_⟩
  ·simp [Value.ownBlock] at e
  ·obtain rfl:j=g:=by simpa [Value.ownBlock] using e
   have h2:=hgb.symm.trans hj;simp at h2;obtain ⟨_,h3⟩:=h2;subst h3;revert ht;decide
 have h3:Blk (W.alloc tmp) j t cs:=hj.alloc tmp;have h4:Blk w1 j t cs:=(hgrow.block j h3.lt h2).trans h3;exact h4.far (p:=⟨B,0,none⟩) h1 _
attribute [local go_sem] Oper.semAt_some
section
variable {a:DA} {L T s n K:Nat} {x:HA} {cs:Nat->CS} {f:Nat->Option Nat} {N m b0:Nat} {S:Fp} {cur:Nat->Nat} {w:World}
def w6x (w:World) (l:List Nat) (e:Ending) (w':World):Prop:=∃ v,e=.returned v/\w'.ownsRow w.heap.size 54 1 v l.length (z0a l)/\Blw w w'
theorem y5l (h:DS a L T s n K x cs f N m b0 S cur w) (hK12:K<=12) (g:Nat) (hg2:w.cell? ⟨g,2,none⟩=some (.pointer (some ⟨x.h,0,none⟩))) (hgl:g < w.heap.size) :
  Calls Tryz.prog 25 #[.pointer (some ⟨g,0,none⟩)] w (w6x w (lvK s cs K)):=by
 obtain ⟨i0,hi,Gk,Gl,Gm⟩:=info_parts z8c;have g2:(w.alloc (.cells #[.slice none 0 0] 40)).cell? ⟨g,2,none⟩=some (.pointer (some ⟨x.h,0,none⟩)):=(((Below.refl _ w).alloc (nL _) _).cell (p:=⟨g,2,none⟩) hgl).trans hg2;have Gb:Blw w ((w.alloc (.cells #[.slice none 0 0] 40)).alloc (.cells #[.pointer (some ⟨x.h,0,none⟩)] 29)):=((Below.refl _ w).alloc (nL _) _).alloc (by simp) _;have bN:=Blk.new (w.alloc (.cells #[.slice none 0 0] 40)) 29 #[.pointer (some ⟨x.h,0,none⟩)];rw [World.size_alloc] at bN;have Ge:=hid (x4a h Gb hK12 (w.heap.size+1) bN);have Gn:=hid (y9o s cs K);have bO:=Boxed.new w 40 (.slice none 0 0);clear h hg2 bN;refine (callsIn_wide (n:=7)).1 (callsIn_of_wp_marks Tryz.func25 rfl trivial ?_ rfl);simp only [Tryz.ntmps25,List.size_toArray,List.length_cons,List.length_nil,Nat.reduceAdd,Nat.reduceSub,Array.replicate_succ,Array.replicate_zero,List.push_toArray,List.append_toArray,List.nil_append,List.cons_append];have Gq:Fence.wide.fn 107:=trivial;gi_wp2_with (gi_at_call 107;refine (callsIn_wide.2 (y7b x.h _)).mono ?_;rintro e w' ⟨rfl,rfl⟩)
 refine wpIn_rangeFunc_ownG (n:=7) (ps:=#[10]) (encs:=pEnc) rfl (by decide) (gf:=206) (lb:=#[.pointer (some ⟨w.heap.size+1,0,none⟩)]) rfl trivial (fun args w=>by kernel_rfl)
  Ge.out KpT.trans (KpT.put (w:=(w.alloc (.cells #[.slice none 0 0] 40)).alloc (.cells #[.pointer (some ⟨x.h,0,none⟩)] 29)) Gb.size) (Below.refl _ _) (fun _=>rfl)
  (fun pre W=>(∃ v,Boxed W w.heap.size 40 v/\W.ownsRow w.heap.size 54 1 v pre.length (z0a pre)/\True)/\Blw w W)
  (fun _ _ _=>False)
  (OwnFrom.and (Own.from (holdsRow_own w.heap.size w.heap.size 40 54 1 (fun pre=>pre.length) (fun pre=>z0a pre) (fun _ _=>True)) _) (ownFrom_below (nL _) Gb.size))
  (fun _ _ _ _ _ hs _ _=>hs)
  ⟨⟨_,bO.alloc _,World.ownsRow_nil _ _ _ _,trivial⟩,Gb⟩
  (fun p=>{ tmps:=#[.pointer (some ⟨g,0,none⟩),undef,.slice none 0 0,.pointer (some ⟨w.heap.size,0,none⟩),.int .u64 p,.pointer (some ⟨g,0,none⟩),.pointer (some ⟨g,0,none⟩),.pointer (some ⟨g,2,none⟩),.pointer (some ⟨x.h,0,none⟩),.func (.func 206) #[] #[.pointer (some ⟨w.heap.size+1,0,none⟩)],.int .u64 p,undef,undef,undef,undef,undef],defers:=[] }) ?assign ?body ?done ?stop
 case assign =>
  intro l x W K hK;unfold pEnc;gi_wp2
  exact hK
 case body =>
  rintro l pre p W ⟨⟨v,hv,Ga,_⟩,hB⟩ hlt;have hc:=hv.cell;have Gr:4096<=maxLen:=by decide
  gi_wp2_with (gi_at_builtin;refine wpListIn_append_own _ rfl _ _ 40 rfl w.heap.size 54 i0 (.int .u64 0) 1 8 Tryz.underlying40 hi Gk Gl Gm rfl (by decide) _ _ _ rfl (Ga.alloc _) ⟨W.heap.size,0,none⟩ 1 1 [.int .u64 p] rfl rfl (cell_one_new _ _ _) (by simp [Value.oneCell']) oM oM (by have:=hB.size;simp;omega) ?_;intro v' w1 hown' hgrow _;obtain ⟨g',Gf,rfl⟩:=ownsRow_succ hown';obtain ⟨Gd,Gj,Gi,Gg,Gc⟩:=hv.appended (by decide) Ga hB.size (nL _) hown' hgrow;have Gh:=y7e hv Ga hgrow Gc;have Go:=Gd.cell;have Gp:=Gd.frozen)
  exact ⟨Gg.from _,Gh,⟨_,Gj,by simpa [z0a] using Gi,trivial⟩,hB.trans Gc⟩
 case done =>
  rintro D ys W hD rfl ⟨⟨v,hv,Ga,_⟩,hB⟩ hK;have hc:=hv.cell;gi_wp2
  refine ⟨by simp,.inl ⟨_,_,rfl,run_takeDeferred hK,?_⟩⟩;exact ⟨_,results_tmp rfl _ _ _,v,rfl,ownsRow_putObj Ga _ hK rfl,hB.trans (belowK_b (w:=w) (nL _) W D _ _ (by simp at hD;omega) hK rfl rfl)⟩
 case stop =>
  rintro D c pre W _ _ h _;exact h.elim
end
end
section
open Go.RowKit Go.Maps
structure BZ where
 T:Nat
 N:Nat
 S:Fp
 cs:Nat->CS
 f:Nat->Option Nat
 cur:Nat->Nat
 al:List Nat
 ptrs:List Nat
 bls:List (List Nat)
theorem x8a {w:World} {base:Nat} {e:TypeId} {size:Nat} {v:Value} {n:Nat} {xs:List Value} (h:w.ownsRow base e size v n xs) {g:Nat} (hg:v.ownBlock=some g):base<=g/\g < w.heap.size:=by
 rcases h.2 with ⟨rfl,_⟩ | ⟨b,cap,cur,rfl,hb,hgb,_⟩
 ·simp [Value.ownBlock] at hg
 ·have e:b=g:=by simpa [Value.ownBlock] using hg
  subst e;exact ⟨hb,(Array.getElem?_eq_some_iff.1 hgb).1⟩
theorem x7z {w w':World} {Z:Fp} {base:Nat} {e:TypeId} {size:Nat} {v:Value} {n:Nat} {xs:List Value} (h:w.ownsRow base e size v n xs) (hc:Chg Z w w') (hn:∀ g,v.ownBlock=some g->¬ Z g):w'.ownsRow base e size v n xs:=by
 refine ⟨h.1,?_⟩;rcases h.2 with h0 | ⟨b,cap,cur,rfl,hb,hgb,h3⟩
 ·exact .inl h0
 ·exact .inr ⟨b,cap,cur,rfl,hb,(hc.block b (Array.getElem?_eq_some_iff.1 hgb).1 (hn b rfl)).trans hgb,h3⟩
section
variable {w0 w w':World} {B b0:Nat} {a:DA} {x:HA} {y:WA} {l:List BL} {k:Nat} {z:BZ} {P6 P7:Value} {p6 p7:List Nat}
end
end
section
open Go.RowKit Go.Maps
def prU (qc:Nat) (ql:List Nat):List (Nat × Nat):=if ql=[]\/qc=0 then [] else [(pAt qc 2,0)]
def w7e (w:World) (qc:Nat) (ql:List Nat) (e:Ending) (w':World):Prop:=∃ A0 n0 A m c,e=.returned (.tuple #[.slice A0 n0 n0,.slice A m c,.bool (!decide (ql=[]) && decide (qc=0)),.int .i64 0])/\n0=(prU qc ql).length/\z0c w' w'.heap.size 2 A0 n0 (z0d (prU qc ql))/\(A0=none->n0=0) /\
 m=ql.length/\z0c w' w'.heap.size 1 A m (z0a ql)/\m<=c/\(∀ ad,A=some ad->w.heap.size<=ad.block)/\(A=none->m=0/\c=0)/\Blw w w'
theorem x4k {W:World} {g o v:Nat} {t:TypeId} (hb:Blk W g t #[.int .u64 o,.int .u64 v]):z0c W W.heap.size 2 (some ⟨g,0,none⟩) 1 (z0d [(o,v)]):=by
 refine ⟨rfl,fun _=>⟨_,rfl,hb.lt,fun j u hu=>?_⟩⟩;have ha:(⟨g,0,none⟩:Addr).add j=⟨g,j,none⟩:=by unfold Addr.add;split <;> simp_all
 rw [ha,hb.cell j,<- Array.getElem?_toList];exact hu
section
variable {a:DA} {L T s n K:Nat} {x:HA} {cs:Nat->CS} {f:Nat->Option Nat} {N m b0:Nat} {S:Fp} {cur:Nat->Nat} {w:World} {d r:Nat}
theorem x0n (h:SD a L T s n K x cs f N m b0 S cur w d r) (head old:Nat) (hh:head < 18446744073709551616) (fo:Bool) (qc:Nat) (ql:List Nat) (hX:folW (verR cur (fun q=>chkR s K cs q 7)) (prS old (z1b L cur (fun q=>chkR s K cs q 1))) 4097 head 4611686018427387904 0 ⟨false,0,[],0⟩=(0,⟨fo,qc,ql,0⟩)) :
  Calls Tryz.prog 47 #[.iface 59 (.pointer (some ⟨d,0,none⟩)),.int .u64 head,.int .u64 old] w (w7e w qc ql):=by
 obtain ⟨W1,Gf⟩:∃ W1,(((((w.alloc (.cells #[.iface 59 (.pointer (some ⟨d,0,none⟩))] 83)).alloc (.cells #[.int .u64 old] 32)).alloc (.cells #[.slice none 0 0] 40)).alloc (.cells #[.int .u64 0] 54)).alloc (.cells #[.bool false] 4)).alloc (.cells #[.int .i64 0] 55)=W1:=⟨_,rfl⟩
 have Gr:=hid Gf;have Gu:∀ (W:World) (o:Obj),(W.alloc o).heap.size=W.heap.size+1:=fun W o=>by simp
 have hb:Blw w W1:=by
  rw [<- Gf];have h1:=(Below.refl w.heap.size w).alloc (nL _) (.cells #[.iface 59 (.pointer (some ⟨d,0,none⟩))] 83);have h2:=h1.alloc h1.size (.cells #[.int .u64 old] 32);have h3:=h2.alloc h2.size (.cells #[.slice none 0 0] 40);have h4:=h3.alloc h3.size (.cells #[.int .u64 0] 54);have h5:=h4.alloc h4.size (.cells #[.bool false] 4);exact h5.alloc h5.size _
 have Gh:PrR d w.heap.size old ⟨false,0,[],0⟩ none 0 0 W1:=by
  rw [<- Gf];have k0:=Blk.new w 83 #[.iface 59 (.pointer (some ⟨d,0,none⟩))];have k1:=Blk.new (w.alloc (.cells #[.iface 59 (.pointer (some ⟨d,0,none⟩))] 83)) 32 #[.int .u64 old];have k2:=Blk.new ((w.alloc (.cells #[.iface 59 (.pointer (some ⟨d,0,none⟩))] 83)).alloc (.cells #[.int .u64 old] 32)) 40 #[.slice none 0 0];have k3:=Blk.new (((w.alloc (.cells #[.iface 59 (.pointer (some ⟨d,0,none⟩))] 83)).alloc (.cells #[.int .u64 old] 32)).alloc (.cells #[.slice none 0 0] 40)) 54 #[.int .u64 0];have k4:=Blk.new ((((w.alloc (.cells #[.iface 59 (.pointer (some ⟨d,0,none⟩))] 83)).alloc (.cells #[.int .u64 old] 32)).alloc (.cells #[.slice none 0 0] 40)).alloc (.cells #[.int .u64 0] 54)) 4 #[.bool false];have k5:=Blk.new (((((w.alloc (.cells #[.iface 59 (.pointer (some ⟨d,0,none⟩))] 83)).alloc (.cells #[.int .u64 old] 32)).alloc (.cells #[.slice none 0 0] 40)).alloc (.cells #[.int .u64 0] 54)).alloc (.cells #[.bool false] 4)) 55 #[.int .i64 0];simp only [Gu] at k1 k2 k3 k4 k5;exact ⟨((((k0.alloc _).alloc _).alloc _).alloc _).alloc _,(((k1.alloc _).alloc _).alloc _).alloc _,((k2.alloc _).alloc _).alloc _,(k3.alloc _).alloc _,k4.alloc _,k5,World.ownsRow_nil _ _ _ _⟩
 have Gl:=(z6z h hb head hh 132 #[.pointer (some ⟨w.heap.size+4,0,none⟩),.pointer (some ⟨w.heap.size+1,0,none⟩),.pointer (some ⟨w.heap.size+3,0,none⟩),.pointer (some ⟨w.heap.size,0,none⟩),.pointer (some ⟨w.heap.size+2,0,none⟩),.pointer (some ⟨w.heap.size+5,0,none⟩)] (fun n q=>q.l.length<=7 * n) (fun _=>PrZ w.heap.size) (PrRs d w.heap.size old) (prS old (z1b L cur (fun q=>chkR s K cs q 1))) ⟨false,0,[],0⟩
  (fun s W hR k hk=>by
   obtain ⟨A,m,c,hR⟩:=hR;rcases hR.z hk with e | e | e | e | e
   ·exact ⟨oM,by rw [e];exact hR.all.lt⟩
   ·exact ⟨oM,by rw [e];exact hR.cu.lt⟩
   ·exact ⟨oM,by rw [e];exact hR.fo.lt⟩
   ·exact ⟨oM,by rw [e];exact hR.bad.lt⟩
   ·have h1:=hR.own.lt k e
    exact ⟨oM,h1.2⟩) (fun s W W' k hR hW hk=>by
   obtain ⟨A,m,c,hR⟩:=hR;exact hR.zin ((hR.below hW).z hk)) (Nat.zero_le _) (fun nn sg p v hn hI=>by
   have h1:=w6c L cur (fun q=>chkR s K cs q 1) old sg p v;have h2:sg.l.length<=7 * nn:=hI;show _<=7 * (nn+1);omega) ⟨none,0,0,Gh⟩ (fun s W W' hR hW=>by
   obtain ⟨A,m,c,hR⟩:=hR;exact ⟨A,m,c,hR.below hW⟩) (fun args w=>by kernel_rfl) (w6d h old _ (nL _)))
 rw [hX] at Gl;have Gn:=hid Gl;have c1:W1.cell? ⟨w.heap.size,0,none⟩=some (.iface 59 (.pointer (some ⟨d,0,none⟩))):=Gh.sp.cell 0;have G4:∀ (fn:Fn) (first cap:Array Value) (w:World),(Instr.makeFunc fn first cap).run Tryz.prog w=.ok (.func fn first cap) w:=fun _ _ _ _=>rfl
 clear h Gf hb Gh hh Gu Gl hX;go_enter Tryz.func47,Tryz.ntmps47
 go_upto_region 3 with fail
 rw [Gr.out];go_wp2_with fail
 refine Gn.out.mono ?_;rintro e w2 ⟨rfl,⟨A2,m2,k2,Ga⟩,hb2⟩;have Gd:=hid hb2;have Gb:=hid Ga;have Ge:Hid (ql.length=m2):=hid (by have h1:=Ga.own.1;simpa [z0a] using h1);have Go:Hid (m2<=k2):=hid (z4z Ga.own).1;have Gp:Hid (A2=none->m2=0/\k2=0):=hid (by
  rcases Ga.own.2 with ⟨hv,h0⟩ | ⟨g,cap,cur,hv,_⟩
  ·injection hv with h1 h2 h3
   exact fun _=>⟨h2,h3⟩
  ·injection hv with h1
   exact fun h=>by rw [h] at h1;cases h1)
 dsimp only;have b2:w2.cell? ⟨w.heap.size+1+1+1+1+1,0,none⟩=some (.int .i64 0):=Ga.bad.cell 0;have b1:w2.cell? ⟨w.heap.size+1+1,0,none⟩=some (.slice A2 m2 k2):=Ga.all.cell 0;have b3:w2.cell? ⟨w.heap.size+1+1+1,0,none⟩=some (.int .u64 qc):=Ga.cu.cell 0;have z1:w2.frozen? ⟨w.heap.size+1+1,0,none⟩=false:=Ga.all.frozen 0;have B1:=hid b1;have Gq:Hid (∀ W:World,Chg (fun k=>k=w.heap.size+1+1) w2 W->z0c W W.heap.size 1 A2 m2 (z0a ql)/\∀ ad,A2=some ad->w.heap.size<=ad.block):=hid (fun W hW=>by
  have Gs:=Ga.own.lt;refine ⟨z0c.of_own (hW.own Ga.own (fun k hk e=>?_)),fun ad had=>?_⟩
  ·have h1:=(Gs k hk).1
   have e':k=w.heap.size+1+1:=e;omega
  ·have h1:=(Gs ad.block (by rw [had];rfl)).1
   omega)
 clear Ga hb2 Gr Gn c1;rw [show ((0:Nat):Int)=0 from rfl];by_cases hm:m2=0
 ·subst hm
  have G5:ql=[]:=List.eq_nil_of_length_eq_zero Ge.out;go_wp2;have G0:(w2.setCell ⟨w.heap.size+1+1,0,none⟩ (.slice none 0 0)).cell? ⟨w.heap.size+1+1,0,none⟩=some (.slice none 0 0):=World.cell?_setCell_same' _ _ _ (by rw [B1.out];rfl);refine bodyPost_ret (v := .tuple #[.slice none 0 0,.slice none 0 0,.bool false,.int .i64 0]) (by simp [results,Tryz.results47,go_sem,G0]) rfl ⟨none,0,none,0,0,?_,?_,?_,fun _=>rfl,rfl,?_,nL _,fun ad had=>(by cases had),fun _=>⟨rfl,rfl⟩,Gd.out.setCell (p:=⟨w.heap.size+1+1,0,none⟩) (by show w.heap.size<=w.heap.size+1+1;omega) _⟩
  ·rfl
  ·rfl
  ·exact ⟨rfl,fun h=>absurd h (Nat.lt_irrefl 0)⟩
  ·exact ⟨rfl,fun h=>absurd h (Nat.lt_irrefl 0)⟩
 ·have G3:(0:Int) < (m2:Int):=oM
  have HQ:Hid (ql≠[]):=hid (fun h=>hm (by rw [<- Ge.out,h];rfl));clear hm;by_cases hc:qc=0
  ·subst hc
   go_upto_region 11 with fail
   go_region;go_wp2_with fail
   have Gj:((w2.setCell ⟨w.heap.size+1+1,0,none⟩ (.slice A2 m2 k2)).drew).cell? ⟨w.heap.size+1+1,0,none⟩=some (.slice A2 m2 k2):=World.cell?_setCell_same' _ _ _ (by rw [B1.out];rfl);have Gk:Chg (fun k=>k=w.heap.size+1+1) w2 ((w2.setCell ⟨w.heap.size+1+1,0,none⟩ (.slice A2 m2 k2)).drew):=((Chg.refl (fun k=>k=w.heap.size+1+1) w2).setCell (p:=⟨w.heap.size+1+1,0,none⟩) (.inl rfl) _).drew;obtain ⟨r1,r2⟩:=Gq.out _ Gk;have hU:prU 0 ql=[]:=by unfold prU;rw [if_pos (.inr rfl)]
   refine bodyPost_ret (v := .tuple #[.slice none 0 0,.slice A2 m2 k2,.bool true,.int .i64 0]) (by simp [results,Tryz.results47,go_sem,Gj]) rfl ⟨none,0,A2,m2,k2,?_,?_,?_,fun _=>rfl,Ge.out.symm,r1,Go.out,r2,Gp.out,(Gd.out.setCell (p:=⟨w.heap.size+1+1,0,none⟩) (by show w.heap.size<=w.heap.size+1+1;omega) _).drew⟩
   ·rw [decide_eq_false HQ.out];rfl
   ·rw [hU];rfl
   ·rw [hU];exact ⟨rfl,fun h=>absurd h (Nat.lt_irrefl 0)⟩
  ·have G2:(0:Int) < (qc:Int):=oM
   have Gm:Hid (qc≠0):=hid hc;clear hc;go_upto_region 12 with fail
   refine z0g (fun w'=>w'.cell? ⟨w.heap.size+1+1,0,none⟩=some (.slice A2 m2 k2)/\w'.cell? ⟨w.heap.size+1+1+1,0,none⟩=some (.int .u64 qc)) 6 [] [(1,0),(1,4),(0,1),(1,2),(0,3),(1,5)] (by kernel_rfl) (by kernel_rfl) ⟨b1,b3⟩ ?_;refine tkH (.int .u64 qc) (fun w' hS=>?_) ?_
   ·obtain ⟨s1,s2⟩:=hS
    go_simp
   refine tkH (.slice A2 m2 k2) (fun w' hS=>?_) ?_
   ·obtain ⟨s1,s2⟩:=hS
    go_simp
   refine z0b (by rfl) ?_;go_wp2_with (go_at_call 49;refine (z8w qc 2 oM _).mono ?_;rintro e w3 ⟨rfl,rfl⟩)
   refine ⟨⟨b1,b3⟩,?_⟩;refine tkG (.agg #[.int .u64 (pAt qc 2:Int),.int .u64 0]) ?_;refine z0b (by rfl) ?_;go_wp2_with fail
   obtain ⟨w4,Gg⟩:∃ w4,(w2.alloc (.cells #[.int .u64 (pAt qc 2:Int),.int .u64 0] 114)).drew=w4:=⟨_,rfl⟩
   have Gc:Blw w2 w4:=by rw [<- Gg];exact ((Below.refl w2.heap.size w2).alloc (nL _) _).drew
   have Gt:Blk w4 w2.heap.size 114 #[.int .u64 (pAt qc 2:Int),.int .u64 0]:=by rw [<- Gg];exact (Blk.new w2 114 #[.int .u64 (pAt qc 2:Int),.int .u64 0]).drew
   have Gi:=Gb.out.all.below Gc Gb.out.all.lt;have Gv:=Gb.out.cu.below Gc Gb.out.cu.lt;have c4:w4.cell? ⟨w.heap.size+1+1,0,none⟩=some (.slice A2 m2 k2):=Gi.cell 0;have c5:w4.cell? ⟨w.heap.size+1+1+1,0,none⟩=some (.int .u64 qc):=Gv.cell 0;have z4:w4.frozen? ⟨w.heap.size+1+1,0,none⟩=false:=Gi.frozen 0;have Gw:=hid (Gd.out.trans (Gc.mono Gd.out.size));have Gx:=hid Gc;have Gy:=hid Gt;have C4:=hid c4;rw [Gg];clear Gg Gc Gi Gv Gt;refine ⟨⟨c4,c5⟩,?_⟩;refine tkG (.slice (some ⟨w2.heap.size,0,none⟩) 1 1) ?_;show wpList _ _ _ _ _ _;simp only [List.drop_succ_cons,List.drop_zero];go_wp2_with fail
   refine NoPanic.normal ?_;go_wp2_with fail
   have Gj:(w4.setCell ⟨w.heap.size+1+1,0,none⟩ (.slice A2 m2 k2)).cell? ⟨w.heap.size+1+1,0,none⟩=some (.slice A2 m2 k2):=World.cell?_setCell_same' _ _ _ (by rw [C4.out];rfl);have hz:Chg (fun k=>k=w.heap.size+1+1) w4 (w4.setCell ⟨w.heap.size+1+1,0,none⟩ (.slice A2 m2 k2)):=(Chg.refl (fun k=>k=w.heap.size+1+1) w4).setCell (p:=⟨w.heap.size+1+1,0,none⟩) (.inl rfl) _;have Gk:Chg (fun k=>k=w.heap.size+1+1) w2 (w4.setCell ⟨w.heap.size+1+1,0,none⟩ (.slice A2 m2 k2)):=(Chg.of_below Gx.out).trans hz (fun k hk => .inl hk);obtain ⟨r1,r2⟩:=Gq.out _ Gk;have Gz:=Gb.out.all.lt;have G1:=hz.blk Gy.out (show ¬ w2.heap.size=w.heap.size+1+1 by omega);have hU:prU qc ql=[(pAt qc 2,0)]:=by unfold prU;rw [if_neg (fun h=>h.elim HQ.out Gm.out)]
   refine bodyPost_ret (v := .tuple #[.slice (some ⟨w2.heap.size,0,none⟩) 1 1,.slice A2 m2 k2,.bool false,.int .i64 0]) (by simp [results,Tryz.results47,go_sem,Gj]) rfl ⟨some ⟨w2.heap.size,0,none⟩,1,A2,m2,k2,?_,?_,?_,fun h=>(by cases h),Ge.out.symm,r1,Go.out,r2,Gp.out,Gw.out.setCell (p:=⟨w.heap.size+1+1,0,none⟩) (by show w.heap.size<=w.heap.size+1+1;omega) _⟩
   ·rw [decide_eq_false Gm.out,Bool.and_false]
   ·rw [hU];rfl
   ·rw [hU]
    exact x4k G1
end
end
end Go.Proofs.YtfkjjoglnmeciaaGreatDoor

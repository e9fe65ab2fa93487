/- The walks and laws that the claim leans on, part 47. -/
import Derived.Test.YtfkjjoglnmeciaaGreatDoorJbt
set_option maxRecDepth 100000
set_option maxHeartbeats 16000000
namespace Go.Proofs.YtfkjjoglnmeciaaGreatDoor
open Go.Lib (hid)
section
open Go.RowKit Go.Maps
theorem tk_a:(tkR ⟨#[97]⟩ (some (1,[]),0)).1=(1,0)∧tkL ⟨#[97]⟩ 1 []=[([97],1)]:=by
 have e:tkR ⟨#[97]⟩ (some (1,[]),0)=((1,0),[([97],1)]):=by kernel_rfl
 refine ⟨by rw [e],?_⟩
 unfold tkL
 rw [e]
 rfl
section
variable {w:World}
theorem awake38_any (ht:Tab w) (hpy:Pay w):Calls Tryz.prog 60 #[] w fun e w'=>e = .returned (.bool true)∧Below w.heap.size w w':=by
 have HBg:=hid (begin38_w ht hpy)
 clear ht hpy
 go_enter Tryz.func60,Tryz.ntmps60
 go_wp2_with (go_at_call 61;refine HBg.out.mono ?_;rintro e w1 ⟨a,x,y,q,gr,rfl,hw,hb⟩;have HW:=hid hw;have HB:=hid hb;clear hw hb;refine stop ?_)
 unfold Stop
 have g3:=HW.out.g3
 have HNx:Hid (Calls Tryz.prog 144 #[.pointer (some ⟨gr,0,none⟩), .iface 59 (.pointer (some ⟨y.d,0,none⟩))] w1 fun e w'=>(∃ g:Nat,w1.heap.size≤g∧e = .returned (.tuple #[.int .u64 1, .slice (some ⟨g,0,none⟩) 1 1])∧Blk w' g 114 #[.int .u64 (pOff q:Int), .int .u64 1])∧Below w1.heap.size w1 w'):=hid HW.out.next_
 go_upto_region 5 with (go_at_call 144;refine HNx.out.mono ?_;rintro e w2 ⟨⟨gn,hgn,rfl,hkn⟩,hb2⟩;refine stop ?_)
 unfold Stop
 have HW2:=hid (HW.out.below hb2)
 have HB2:=hid (HB.out.trans (hb2.mono HB.out.size))
 have HSt:=hid HW2.out.stamp
 have HKn:=hid hkn
 clear hgn hb2 hkn g3 HNx HBg
 have g3:=HW2.out.g3
 go_upto_region 5 with fail
 have HPu:Hid (∀ W,Below w2.heap.size w2 W→Calls Tryz.prog 54 #[.pointer (some ⟨y.d,0,none⟩), .slice (some ⟨gn,0,none⟩) 1 1, .slice none 0 0, .slice none 0 0] W fun e w'=>e = .returned (.int .i64 0)∧RgW w.heap.size a x y q gr 3800 10 1 [] w'∧Below w.heap.size W w'):=hid (fun W hW=>(HW2.out.below hW).pubNext (by decide) (HKn.out.below hW HKn.out.lt) (by decide) (by decide))
 have HG3:Hid (∀ W,Below w2.heap.size w2 W→W.cell? ⟨y.g,3,none⟩=some (.pointer (some ⟨y.d,0,none⟩))∧W.cell? ⟨gn,1,none⟩=some (.int .u64 1)):=hid (fun W hW=>⟨(HW2.out.below hW).g3,(HKn.out.below hW HKn.out.lt).cell 1⟩)
 go_upto_region 7 with (first
  | (go_at_call 145;refine HSt.out.mono ?_;rintro e w3 ⟨rfl,hb3⟩;have HB3:=hid hb3;obtain ⟨g4,n4⟩:=HG3.out w3 hb3;clear hb3)
  | (go_at_call 54;refine (HPu.out w3 HB3.out).mono ?_;rintro e w4 ⟨rfl,hw4,hb4⟩;have HW4:=hid hw4;have HB4:=hid ((HB2.out.trans (HB3.out.mono HB2.out.size)).trans hb4);clear hw4 hb4))
 clear g3 g4 n4 HSt HPu HG3
 have g3:=HW4.out.g3
 have HTk:Hid (Calls Tryz.prog 146 #[.pointer (some ⟨gr,0,none⟩), .iface 59 (.pointer (some ⟨y.d,0,none⟩)), .string ⟨#[97]⟩] w4 fun e w'=>e = .returned (.tuple #[.int .u64 1, .int .i64 0])∧RgW w.heap.size a x y q gr 4600 10 1 [([97],1)] w'∧Below w.heap.size w4 w'):=hid (by
  have h1:=HW4.out.take_ ⟨#[97]⟩ (by decide) (by decide) (by decide)
  rw [tk_a.1,tk_a.2] at h1
  exact h1)
 go_upto_region 8 with (go_at_call 146;refine HTk.out.mono ?_;rintro e w5 ⟨rfl,hw5,hb5⟩;have HW5:=hid hw5;have HB5:=hid (HB4.out.trans hb5);clear hw5 hb5)
 clear g3 HTk
 have g3:=HW5.out.g3
 have HLi:Hid (Calls Tryz.prog 147 #[.pointer (some ⟨gr,0,none⟩), .iface 59 (.pointer (some ⟨y.d,0,none⟩))] w5 fun e w'=>(∃ gl c:Nat,e = .returned (.slice (some ⟨gl,0,none⟩) 1 c)∧w'.cell? ⟨gl,0,none⟩=some (.string ⟨#[97]⟩)∧w'.cell? ⟨gl,1,none⟩=some (.int .u64 1)∧gl < w'.heap.size)∧Below w5.heap.size w5 w'):=hid (HW5.out.list.mono (fun e w' h=>by
  obtain ⟨A,m,c,l',he,hs,ho,hb⟩:=h
  have hl:l'=[([97],1)]:=List.perm_singleton.1 hs.perm
  subst hl
  have hm:m=1:=by
   have h1:=ho.1
   have h2:(itCells [([97],1)]).length=2:=rfl
   omega
  subst hm
  rcases ho.2 with ⟨_,h0⟩ | ⟨gl,cap,cu,h1,h2,h3,_⟩
  ·cases h0
  ·have h4:=h1
   injection h4 with h5 h6 h7
   subst h5
   refine ⟨⟨gl,c,he,?_,?_,?_⟩,hb⟩
   ·obtain ⟨b,off,hA,_,hc⟩:=(Reads.of_own ho).plain (by decide) (by decide)
    cases hA
    exact hc 0 _ rfl
   ·obtain ⟨b,off,hA,_,hc⟩:=(Reads.of_own ho).plain (by decide) (by decide)
    cases hA
    exact hc 1 _ rfl
   ·rcases Nat.lt_or_ge gl w'.heap.size with h | h
    ·exact h
    ·rw [Array.getElem?_eq_none h] at h3
     cases h3))
 go_upto_region 9 with (go_at_call 147;refine HLi.out.mono ?_;rintro e w6 ⟨⟨gl,c,rfl,l0,l1,hgl⟩,hb6⟩;have HL6:=hid (And.intro l0 (And.intro l1 hgl));have HW6:=hid (HW5.out.below hb6);have HB6:=hid (HB5.out.trans (hb6.mono HB5.out.size));clear l0 l1 hgl hb6)
 clear g3 HLi
 have g3:=HW6.out.g3
 have HS6:=hid HW6.out.stamp
 have HOl:Hid (∀ W,Below w6.heap.size w6 W→Calls Tryz.prog 148 #[.pointer (some ⟨gr,0,none⟩), .iface 59 (.pointer (some ⟨y.d,0,none⟩))] W fun e w'=>e = .returned (.int .u64 1)∧Below W.heap.size W w'):=hid (fun W hW=>(HW6.out.below hW).oldest)
 have HGc:Hid (∀ W,Below w6.heap.size w6 W→W.cell? ⟨y.g,3,none⟩=some (.pointer (some ⟨y.d,0,none⟩))∧W.cell? ⟨gl,0,none⟩=some (.string ⟨#[97]⟩)∧W.cell? ⟨gl,1,none⟩=some (.int .u64 1)):=hid (fun W hW=>⟨(HW6.out.below hW).g3,(hW.cell (p:=⟨gl,0,none⟩) HL6.out.2.2).trans HL6.out.1,(hW.cell (p:=⟨gl,1,none⟩) HL6.out.2.2).trans HL6.out.2.1⟩)
 go_wp2_with (first
  | (go_at_call 145;refine HS6.out.mono ?_;rintro e w7 ⟨rfl,hb7⟩;have HB7:=hid hb7;obtain ⟨c3,c4,c5⟩:=HGc.out w7 hb7;clear hb7)
  | (go_at_call 148;refine (HOl.out w7 HB7.out).mono ?_;rintro e w8 ⟨rfl,hb8⟩;have HB8:=hid (HB7.out.trans (hb8.mono HB7.out.size));obtain ⟨c6,c7,c8⟩:=HGc.out w8 HB8.out;clear hb8))
 go_ret
 exact ⟨rfl,HB6.out.trans (HB8.out.mono HB6.out.size)⟩
end
end
section
open Go.RowKit Go.Maps
theorem minL_perm {l l':List (List Nat × Nat)} {m:Nat} (h:l'.Perm l):minL m l'=minL m l:=by
 unfold minL
 refine h.foldl_eq' (fun x _ y _ z=>?_) m
 show min (min z x.2) y.2=min (min z y.2) x.2
 rw [Nat.min_assoc,Nat.min_comm x.2,← Nat.min_assoc]
def acCells (l:List (Nat × ByteArray)):List Value:=l.flatMap fun p=>[.int .u8 (p.1:Int), .string p.2]
theorem acCells_len (l:List (Nat × ByteArray)):(acCells l).length=l.length * 2:=by
 induction l with
 | nil=>rfl
 | cons p t ih =>
  simp only [acCells,List.flatMap_cons,List.length_append,List.length_cons,List.length_nil] at ih ⊢
  omega
theorem acCells_at:∀ (l:List (Nat × ByteArray)) (k j:Nat) (hk:k < l.length),j < 2→(acCells l)[k * 2+j]?=[Value.int .u8 ((l[k]).1:Int), .string (l[k]).2][j]?
 | p :: l,0,j,_,hj=>by
  show ([Value.int .u8 (p.1:Int), .string p.2]++acCells l)[0 * 2+j]?=_
  rw [Nat.zero_mul,Nat.zero_add,List.getElem?_append_left (show j < 2 from hj)]
  rfl
 | p :: l,k+1,j,hk,hj=>by
  have hk':k < l.length:=by simpa using hk
  have ih:=acCells_at l k j hk' hj
  show ([Value.int .u8 (p.1:Int), .string p.2]++acCells l)[(k+1) * 2+j]?=_
  rw [List.getElem?_append_right (show (2:Nat)≤(k+1) * 2+j by omega)]
  show (acCells l)[(k+1) * 2+j - 2]?=_
  rw [show (k+1) * 2+j - 2=k * 2+j by omega]
  exact ih
theorem ac_facts {w:World} {B n:Nat} {A:Option Addr} {l:List (Nat × ByteArray)} (h:Reads w B 2 A n (acCells l)) {k:Nat} (hk:k < n) :
  ∃ (hl:k < l.length) (b off:Nat),A=some ⟨b,off,none⟩∧b < B∧w.cell? ⟨b,off+k * 2,none⟩=some (.int .u8 ((l[k]).1:Int))∧w.cell? ⟨b,off+k * 2+1,none⟩=some (.string (l[k]).2):=by
 have hl:k < l.length:=by have:=h.1;rw [acCells_len] at this;omega
 obtain ⟨b,off,hA,hb,hc⟩:=h.plain (by omega) (by omega)
 exact ⟨hl,b,off,hA,hb,hc (k * 2) _ (acCells_at l k 0 hl (by omega)),hc (k * 2+1) _ (acCells_at l k 1 hl (by omega))⟩
structure ActsIn (w:World) (A:Option Addr) (n c:Nat) (l:List (Nat × ByteArray)):Prop where
 rd:Reads w w.heap.size 2 A n (acCells l)
 cap:n≤c∧c≤9223372036854775807
 each:∀ p∈l,p.1 < 256∧p.2.size≤9223372036854775807
end
section
open Go.RowKit Go.Maps
def RgX (B:Nat) (bs:List Nat) (a:DA) (x:HA) (y:WA) (q gr T N st:Nat) (l:List (List Nat × Nat)) (w:World):Prop:=∃ cs f m S cur,RgS a 149 T 3 x y cs f N m B S cur q st l w∧Blk w gr 265 #[.int .u64 (q:Int)]∧¬ sfp S x gr∧B≤w.heap.size∧∀ g∈bs,g < w.heap.size∧¬ sfp S x g
def KeptB (bs:List Nat) (w w':World):Prop:=∀ g∈bs,w'.heap[g]?=w.heap[g]?
section
variable {B:Nat} {bs:List Nat} {a:DA} {x:HA} {y:WA} {q gr T N st:Nat} {l:List (List Nat × Nat)} {w w':World}
theorem RgX.rgW (h:RgX B bs a x y q gr T N st l w):RgW B a x y q gr T N st l w:=by
 obtain ⟨cs,f,m,S,cur,h1,h2,h3,h4,_⟩:=h
 exact ⟨cs,f,m,S,cur,h1,h2,h3,h4⟩
theorem RgW.rgX (h:RgW B a x y q gr T N st l w):RgX B [] a x y q gr T N st l w:=by
 obtain ⟨cs,f,m,S,cur,h1,h2,h3,h4⟩:=h
 exact ⟨cs,f,m,S,cur,h1,h2,h3,h4,fun g hg=>absurd hg (by simp)⟩
theorem RgX.below (h:RgX B bs a x y q gr T N st l w) (hb:Below w.heap.size w w'):RgX B bs a x y q gr T N st l w':=by
 obtain ⟨cs,f,m,S,cur,h1,h2,h3,h4,h5⟩:=h
 exact ⟨cs,f,m,S,cur,h1.below hb,h2.below hb h2.lt,h3,Nat.le_trans h4 hb.size,fun g hg=>⟨Nat.lt_of_lt_of_le (h5 g hg).1 hb.size,(h5 g hg).2⟩⟩
theorem RgW.size (h:RgW B a x y q gr T N st l w):B≤w.heap.size:=by
 obtain ⟨cs,f,m,S,cur,h1,h2,h3,h4⟩:=h
 exact h4
theorem RgX.more {T':Nat} (h:RgX B bs a x y q gr T N st l w) (hT:T≤T') (hT':T'≤1000000000):RgX B bs a x y q gr T' N st l w:=by
 obtain ⟨cs,f,m,S,cur,h1,h2,h3,h4,h5⟩:=h
 exact ⟨cs,f,m,S,cur,{ h1 with bw:=h1.bw.more hT hT' (Nat.le_refl _) },h2,h3,h4,h5⟩
theorem RgTo.rgX {cs:Nat→CS} {f:Nat→Option Nat} {m:Nat} {S:Fp} {cur:Nat→Nat} {st':Nat} {l':List (List Nat × Nat)} (h1:RgS a 149 T 3 x y cs f N m B S cur q st l w) (h2:Blk w gr 265 #[.int .u64 (q:Int)]) (h3:¬ sfp S x gr) (h4:B≤w.heap.size) (h5:∀ g∈bs,g < w.heap.size∧¬ sfp S x g) (h:RgTo a 149 T 3 x y cs f N m B S w q st' l' w'):RgX B bs a x y q gr (T+800) N st' l' w'∧Below B w w'∧KeptB bs w w':=by
 obtain ⟨S',cur',g1,g2,g3⟩:=h
 have hb:Below B w w':=g2.toBelow h4 (fun i hi=>sfp_old h1.bw.sd hi)
 have hno:∀ g,g < w.heap.size→¬ sfp S x g→¬ sfp S' x g:=fun g hg hz hz'=>by
  rcases hz' with hz' | hz'
  ·rcases g3 _ hz' with e | e
   ·exact hz (.inl e)
   ·exact absurd hg (Nat.not_lt.2 e)
  ·exact hz (.inr hz')
 refine ⟨⟨cs,f,m,S',cur',g1,g2.blk h2 h3,hno gr h2.lt h3,Nat.le_trans h4 hb.size,fun g hg=>⟨Nat.lt_of_lt_of_le (h5 g hg).1 hb.size,hno g (h5 g hg).1 (h5 g hg).2⟩⟩,hb,fun g hg=>?_⟩
 exact g2.block g (h5 g hg).1 (h5 g hg).2
theorem RgX.take_ (h:RgX B bs a x y q gr T N st l w) (nm:ByteArray) (hs:nm.size≤9223372036854775807) (hT:T+800≤1000000000) (hN:N≤1000000000) :
  Calls Tryz.prog 146 #[.pointer (some ⟨gr,0,none⟩), .iface 59 (.pointer (some ⟨y.d,0,none⟩)), .string nm] w fun e w'=>e = .returned (.tuple #[.int .u64 ((tkR nm (some (st,l),0)).1.1:Int), .int .i64 ((tkR nm (some (st,l),0)).1.2:Int)])∧RgX B bs a x y q gr (T+800) N st (tkL nm st l) w'∧Below B w w'∧KeptB bs w w':=by
 obtain ⟨cs,f,m,S,cur,h1,h2,h3,h4,h5⟩:=h
 exact (h1.take_ (by decide) h2 nm hs hT hN).mono (fun e w' g=>⟨g.1,RgTo.rgX h1 h2 h3 h4 h5 g.2⟩)
theorem RgX.drop_ (h:RgX B bs a x y q gr T N st l w) (nm:ByteArray) (hT:T+800≤1000000000) (hN:N≤1000000000) :
  Calls Tryz.prog 152 #[.pointer (some ⟨gr,0,none⟩), .iface 59 (.pointer (some ⟨y.d,0,none⟩)), .string nm] w fun e w'=>e = .returned (.int .i64 ((drpR nm (some (st,l),0)).1:Int))∧RgX B bs a x y q gr (T+800) N st (dpL nm st l) w'∧Below B w w'∧KeptB bs w w':=by
 obtain ⟨cs,f,m,S,cur,h1,h2,h3,h4,h5⟩:=h
 exact (h1.drop_ (by decide) h2 nm hT hN).mono (fun e w' g=>⟨g.1,RgTo.rgX h1 h2 h3 h4 h5 g.2⟩)
theorem RgX.pubNext (h:RgX B bs a x y q gr T N st l w) (hs:st < 4611686018427387903) {g:Nat} (hg:Blk w g 114 #[.int .u64 (pOff q:Int), .int .u64 ((st+1:Nat):Int)]) (hT:T+800≤1000000000) (hN:N≤1000000000) :
  Calls Tryz.prog 54 #[.pointer (some ⟨y.d,0,none⟩), .slice (some ⟨g,0,none⟩) 1 1, .slice none 0 0, .slice none 0 0] w fun e w'=>e = .returned (.int .i64 0)∧RgX B bs a x y q gr (T+800) N (st+1) l w'∧Below B w w'∧KeptB bs w w':=by
 obtain ⟨cs,f,m,S,cur,h1,h2,h3,h4,h5⟩:=h
 exact (h1.pubNext (by decide) hs hg hT hN).mono (fun e w' g=>⟨g.1,RgTo.rgX h1 h2 h3 h4 h5 g.2⟩)
end
end
section
open Go.ChangeShapes Go.WideShapes Go.ChangeAt Go.RowKit
theorem cellsActS:Tryz.prog.cellsOf 9=1:=by kernel_rfl
theorem cellsAct:Tryz.prog.cellsOf 132=2:=by kernel_rfl
def actOk (p:Nat × ByteArray):Prop:=p.1 < 256∧p.2.size≤9223372036854775807
def actCs (p:Nat × ByteArray):List Value:=[.int .u8 (p.1:Int), .string p.2]
section
variable {H:Type} {enc:TypeId × Value→H} {w:World} {base:Nat} {sp:Nat→Bool} {held:Bool} {fuel:Nat} {x:DataW H × List MemPlace}
theorem open_act {cs:List Value} (h:DataW.trod enc Tryz.prog w base sp held fuel 132 cs=some x):∃ p:Nat × ByteArray,cs=actCs p∧actOk p:=by
 obtain ⟨xs,n,_,_,hlen,hxl,hf⟩:=DataW.trod_struct Tryz.underlying132 h
 have hx2:xs.length=2:=hxl
 have get:∀ j,j < 2→∃ y,xs[j]?=some y:=fun j hj=>⟨xs[j],List.getElem?_eq_getElem (by omega)⟩
 obtain ⟨y0,e0⟩:=get 0 (by omega)
 obtain ⟨y1,e1⟩:=get 1 (by omega)
 obtain ⟨a0,c0,_,b0⟩:=DataW.trod_int Tryz.underlying5 ((hf 0 _ rfl).trans e0)
 obtain ⟨s1,c1,_,b1⟩:=DataW.trod_string Tryz.underlying9 ((hf 1 _ rfl).trans e1)
 change (cs.drop 0).take (Tryz.prog.cellsOf 5)=_ at c0
 change (cs.drop 1).take (Tryz.prog.cellsOf 9)=_ at c1
 rw [cellsU8] at c0
 rw [cellsActS] at c1
 obtain ⟨k0,rfl,l0⟩:=wf_u8 b0
 have hl2:cs.length=2:=hlen.trans cellsAct
 exact ⟨(k0,s1),pair_cells hl2 (one_at c0) (one_at c1),l0,b1⟩
end
def ActsIs (w:World) (v:Value):Prop:=∃ (A:Option Addr) (n c:Nat) (l:List (Nat × ByteArray)),v = .slice A n c∧ActsIn w A n c l
section
variable {H:Type} {enc:TypeId × Value→H} {W:World} {b0 base:Nat} {sp:Nat→Bool} {held:Bool} {v:Value} {d:DataW H} {p:List MemPlace} {r:Reach}
theorem acts_of (hv:Value.okWide Tryz.prog W r b0 124 v) (h:DataW.Trod enc Tryz.prog W base sp held 124 v d p):ActsIs W v:=by
 obtain ⟨fuel,hf⟩:=h
 obtain ⟨a0,n0,k0,rfl⟩:=okWide_slice Tryz.underlying124 hv
 have hcv:(Value.slice a0 n0 k0).cells.toList=[.slice a0 n0 k0]:=rfl
 rw [hcv] at hf
 rcases Go.Deep.open_slice Tryz.underlying124 hf with ⟨hcs,_⟩ | ⟨a,len,cap,m,n,D,Pl,hcs,hb,hl,hm,hmm,hx,hi⟩
 ·obtain hcs:Value.slice a0 n0 k0 = .slice none 0 0:=by simpa using hcs
  rw [hcs]
  exact ⟨none,0,0,[],rfl,⟨rfl,fun h=>absurd h (by omega)⟩,⟨Nat.le_refl _,Nat.zero_le _⟩,fun _ h=>by cases h⟩
 ·obtain hcs:Value.slice a0 n0 k0 = .slice (some a) len cap:=by simpa using hcs
  rw [hcs]
  have hlm:len≤m:=by rw [hmm];split <;> omega
  obtain ⟨l,h1,h2,h3,h4⟩:=reads_elems actCs 2 (by omega) (fun _=>rfl) W a actOk len (fun i hil=>by
   obtain ⟨cs',hc,ht'⟩:=hi i (by omega)
   rw [cellsAct] at hc
   obtain ⟨e,rfl,ho⟩:=open_act ht'
   obtain ⟨_,hcl,hat⟩:=World.cells?_some hc
   exact ⟨e,ho,fun j hj=>by rw [← Go.Deep.add_add];exact hat j hj⟩)
  refine ⟨some a,len,cap,l,rfl,⟨h3,fun hpos=>⟨a,rfl,?_,h4⟩⟩,⟨hl,hm⟩,h2⟩
  have hl9:0 < (l.flatMap actCs).length:=by rw [h3];omega
  have:=World.block_lt_of_cell? _ _ (h4 0 _ (List.getElem?_eq_getElem hl9))
  rw [block_of_add] at this
  exact this
theorem nstr_of (hv:Value.okWide Tryz.prog W r b0 9 v) (h:DataW.Trod enc Tryz.prog W base sp held 9 v d p):∃ s:ByteArray,v = .string s∧s.size≤9223372036854775807:=by
 obtain ⟨s,rfl⟩:=okWide_string Tryz.underlying9 hv
 obtain ⟨fuel,hf⟩:=h
 obtain ⟨s',hcs,_,hs⟩:=DataW.trod_string Tryz.underlying9 hf
 have hcv:(Value.string s).cells.toList=[.string s]:=rfl
 rw [hcv] at hcs
 have e:s=s':=by simpa using hcs
 subst e
 exact ⟨s,rfl,hs⟩
end
end
section
open Go.RowKit Go.Maps
structure RlIn (bs:List Nat) (A:Option Addr) (n c:Nat) (rl:List (List Nat × Nat)) (w:World):Prop where
 cap:n≤c∧c≤9223372036854775807
 rd:Reads w w.heap.size 2 A n (itCells rl)
 at_:∀ ad,A=some ad→ad.block∈bs
theorem RlIn.len {bs:List Nat} {A:Option Addr} {n c:Nat} {rl:List (List Nat × Nat)} {w:World} (h:RlIn bs A n c rl w):rl.length=n:=by
 have:=h.rd.1
 rw [itCells_len] at this
 omega
theorem reads_kept {w w':World} {bs:List Nat} {A:Option Addr} {n k:Nat} {xs:List Value} (h:Reads w w.heap.size k A n xs) (hat:∀ ad,A=some ad→ad.block∈bs) (hk:KeptB bs w w') (hs:w.heap.size≤w'.heap.size):Reads w' w'.heap.size k A n xs:=by
 refine ⟨h.1,fun hn=>?_⟩
 obtain ⟨ad,hA,hb,hc⟩:=h.2 hn
 refine ⟨ad,hA,Nat.lt_of_lt_of_le hb hs,fun j u hu=>?_⟩
 have h1:=hc j u hu
 rw [← h1]
 exact World.cell?_of_block (by
  rw [block_of_add]
  exact hk _ (hat ad hA))
theorem RlIn.kept {w w':World} {bs:List Nat} {A:Option Addr} {n c:Nat} {rl:List (List Nat × Nat)} (h:RlIn bs A n c rl w) (hk:KeptB bs w w') (hs:w.heap.size≤w'.heap.size):RlIn bs A n c rl w':=⟨h.cap,reads_kept h.rd h.at_ hk hs,h.at_⟩
theorem RlIn.below {w w':World} {bs:List Nat} {A:Option Addr} {n c:Nat} {rl:List (List Nat × Nat)} (h:RlIn bs A n c rl w) (hb:Below w.heap.size w w'):RlIn bs A n c rl w':=⟨h.cap,(h.rd.below hb).more hb.size,h.at_⟩
theorem RlIn.more {w:World} {bs bs':List Nat} {A:Option Addr} {n c:Nat} {rl:List (List Nat × Nat)} (h:RlIn bs A n c rl w) (hs:∀ g∈bs,g∈bs'):RlIn bs' A n c rl w:=⟨h.cap,h.rd,fun ad hA=>hs _ (h.at_ ad hA)⟩
theorem RlIn.nil (bs:List Nat) (w:World):RlIn bs none 0 0 [] w:=⟨⟨Nat.le_refl _,by decide⟩,Reads.none_,fun ad h=>by cases h⟩
theorem KeptB.trans {bs:List Nat} {w w' w'':World} (h:KeptB bs w w') (h':KeptB bs w' w''):KeptB bs w w'':=fun g hg=>(h' g hg).trans (h g hg)
theorem KeptB.less {bs bs':List Nat} {w w':World} (h:KeptB bs' w w') (hs:∀ g∈bs,g∈bs'):KeptB bs w w':=fun g hg=>h g (hs g hg)
theorem KeptB.blk {bs:List Nat} {w w':World} (h:KeptB bs w w') {g:Nat} {t:TypeId} {cs:Array Value} (hB:Blk w g t cs) (hg:g∈bs):Blk w' g t cs:=(h g hg).trans hB
section
variable {B:Nat} {bs:List Nat} {a:DA} {x:HA} {y:WA} {q gr T N st:Nat} {l rl:List (List Nat × Nat)} {w w':World}
theorem RgX.lts (h:RgX B bs a x y q gr T N st l w):∀ g∈bs,g < w.heap.size:=by
 obtain ⟨cs,f,m,S,cur,h1,h2,h3,h4,h5⟩:=h
 exact fun g hg=>(h5 g hg).1
theorem RgX.news (h:RgX B bs a x y q gr T N st l w) (hb:Below w.heap.size w w'):∀ (gs:List Nat),(∀ g∈gs,w.heap.size≤g∧g < w'.heap.size)→RgX B (gs++bs) a x y q gr T N st l w'
 | [],_=>h.below hb
 | g :: gs,hg=>by
  obtain ⟨g1,g2⟩:=hg g (by simp)
  obtain ⟨cs,f,m,S,cur,e1,e2,e3,e4,e5⟩:=h
  refine ⟨cs,f,m,S,cur,e1.below hb,e2.below hb e2.lt,e3,Nat.le_trans e4 hb.size,fun g' hg2=>?_⟩
  have hnew:∀ z,w.heap.size≤z→¬ sfp S x z:=fun z hz hz'=>by
   have:=sfp_lt e1.bw.sd hz'
   omega
  rcases List.mem_cons.1 hg2 with rfl | hg2
  ·exact ⟨g2,hnew _ g1⟩
  ·rcases List.mem_append.1 hg2 with hg2 | hg2
   ·obtain ⟨q1,q2⟩:=hg g' (List.mem_cons_of_mem _ hg2)
    exact ⟨q2,hnew _ q1⟩
   ·exact ⟨Nat.lt_of_lt_of_le (e5 g' hg2).1 hb.size,(e5 g' hg2).2⟩
end
end
section
open Go.RowKit Go.Maps
theorem cb_swap:∀ a b:List UInt8,Lib.compareBytes b a = - Lib.compareBytes a b
 | [],[]=>rfl
 | [],_ :: _=>rfl
 | _ :: _,[]=>rfl
 | x :: a,y :: b=>by
  have ih:=cb_swap a b
  rw [cb_cons,cb_cons]
  split <;> (try split) <;> (try split) <;> omega
theorem nmCf_swap (x y:List Nat × Nat):nmCf y x = - nmCf x y:=cb_swap _ _
theorem nmCf_eq {x y:List Nat × Nat} (h:nmCf x y=0):nmS x=nmS y:=ByteArray.ext (Array.toList_inj.1 (cb_eq _ _ h))
structure RLk (l rl:List (List Nat × Nat)):Prop where
 perm:rl.Perm l
 up:rl.Pairwise (fun x y=>nmCf x y < 0)
theorem RLk.nil:RLk [] []:=⟨List.Perm.refl _,List.Pairwise.nil⟩
theorem up_unique:∀ (a b:List (List Nat × Nat)),a.Perm b→a.Pairwise (fun x y=>nmCf x y < 0)→b.Pairwise (fun x y=>nmCf x y < 0)→a=b
 | [],b,h,_,_=>(List.nil_perm.1 h).symm
 | x :: a,[],h,_,_=>absurd h.length_eq (by simp)
 | x :: a,y :: b,h,h1,h2=>by
  rw [List.pairwise_cons] at h1 h2
  have e:x=y:=by
   have hx:x∈y :: b:=h.mem_iff.1 (by simp)
   have hy:y∈x :: a:=h.mem_iff.2 (by simp)
   rcases List.mem_cons.1 hx with e | hx
   ·exact e
   ·rcases List.mem_cons.1 hy with e | hy
    ·exact e.symm
    ·have g1:=h1.1 y hy
     have g2:=h2.1 x hx
     have g3:=nmCf_swap x y
     omega
  subst e
  rw [up_unique a b ((List.perm_cons x).1 h) h1.2 h2.2]
theorem nm_inj {l:List (List Nat × Nat)} (h:(l.map nmS).Nodup) {p q:List Nat × Nat} (hp:p∈l) (hq:q∈l) (he:nmS p=nmS q):p=q:=by
 induction l with
 | nil=>cases hp
 | cons x t ih =>
  rw [List.map_cons,List.nodup_cons] at h
  rcases List.mem_cons.1 hp with e1 | h1
  ·rcases List.mem_cons.1 hq with e2 | h2
   ·rw [e1,e2]
   ·exact absurd (show nmS x∈t.map nmS by rw [← e1,he];exact List.mem_map_of_mem h2) h.1
  ·rcases List.mem_cons.1 hq with e2 | h2
   ·exact absurd (show nmS x∈t.map nmS by rw [← e2,← he];exact List.mem_map_of_mem h1) h.1
   ·exact ih h.2 h1 h2
theorem SortNm.eq {l l' rl:List (List Nat × Nat)} (h:SortNm l l') (hn:(l.map nmS).Nodup) (hr:RLk l rl):l'=rl:=by
 refine up_unique l' rl (h.perm.trans hr.perm.symm) ?_ hr.up
 rw [List.pairwise_iff_getElem]
 intro i j hi hj hij
 have h1:=h.up i j hi hj hij
 have h2:=nmCf_swap l'[j] l'[i]
 have hn2:(l'.map nmS).Nodup:=(h.perm.map nmS).nodup_iff.2 hn
 have h3:nmCf l'[i] l'[j]≠0:=fun h0=>by
  have e:=nmCf_eq h0
  have e2:(l'.map nmS)[i]'(by simpa using hi)=(l'.map nmS)[j]'(by simpa using hj):=by
   rw [List.getElem_map,List.getElem_map]
   exact e
  exact List.pairwise_iff_getElem.1 hn2 i j (by simpa using hi) (by simpa using hj) hij e2
 omega
theorem RLk.fnd {l rl:List (List Nat × Nat)} (h:RLk l rl) (s:ByteArray):fndS s 0 rl < 0↔fndS s 0 l < 0:=by
 rw [fndS_neg,fndS_neg,(h.perm.map nmS).mem_iff]
theorem RLk.at_ {l rl:List (List Nat × Nat)} (h:RLk l rl) (hn:(l.map nmS).Nodup) {s:ByteArray} (hf:¬ fndS s 0 l < 0):∃ j i,∃ (hj:j < l.length) (hi:i < rl.length),fndS s 0 l=(j:Int)∧fndS s 0 rl=(i:Int)∧l[j]=rl[i]∧nmS l[j]=s:=by
 obtain ⟨j,hj,h1,h2⟩:=fndS_at s l 0 hf
 obtain ⟨i,hi,h3,h4⟩:=fndS_at s rl 0 (fun hx=>hf ((h.fnd s).1 hx))
 rw [Nat.zero_add] at h1 h3
 exact ⟨j,i,hj,hi,h1,h3,nm_inj hn (List.getElem_mem hj) (h.perm.mem_iff.1 (List.getElem_mem hi)) (h2.trans h4.symm),h2⟩
def insN (p:List Nat × Nat):List (List Nat × Nat)→List (List Nat × Nat)
 | []=>[p]
 | x :: t=>if nmCf p x < 0 then p :: x :: t else x :: insN p t
def rfT (s:ByteArray) (st:Nat) (rl:List (List Nat × Nat)):List (List Nat × Nat) × Nat:=if nmOk s=false then (rl,15) else if 0≤fndS s 0 rl then (rl,6) else if rl.length=8 then (rl,4) else (insN (bytesN s,st) rl,0)
def rfD (s:ByteArray) (rl:List (List Nat × Nat)):List (List Nat × Nat) × Nat:=if fndS s 0 rl < 0 then (rl,5) else (rl.eraseIdx (fndS s 0 rl).toNat,0)
def rfG (s:ByteArray) (rl:List (List Nat × Nat)):Nat × Nat:=if fndS s 0 rl < 0 then (0,5) else ((rl.getD (fndS s 0 rl).toNat ([],0)).2,0)
theorem insN_perm (p:List Nat × Nat):∀ rl,(insN p rl).Perm (p :: rl)
 | []=>List.Perm.refl _
 | x :: t=>by
  unfold insN
  split
  ·exact List.Perm.refl _
  ·exact ((insN_perm p t).cons x).trans (List.Perm.swap p x t)
theorem insN_up (p:List Nat × Nat):∀ rl:List (List Nat × Nat),rl.Pairwise (fun x y=>nmCf x y < 0)→nmS p ∉ rl.map nmS→(insN p rl).Pairwise (fun x y=>nmCf x y < 0)
 | [],_,_=>List.pairwise_singleton _ _
 | x :: t,h,hn=>by
  rw [List.map_cons,List.mem_cons] at hn
  have h0:=h
  rw [List.pairwise_cons] at h
  unfold insN
  split
  ·rename_i hc
   rw [List.pairwise_cons]
   refine ⟨fun y hy=>?_,h0⟩
   rcases List.mem_cons.1 hy with rfl | hy
   ·exact hc
   ·exact cb_trans _ _ _ hc (h.1 y hy)
  ·rename_i hc
   rw [List.pairwise_cons]
   refine ⟨fun y hy=>?_,insN_up p t h.2 (fun hx=>hn (.inr hx))⟩
   rcases List.mem_cons.1 ((insN_perm p t).mem_iff.1 hy) with rfl | hy
   ·have h1:=nmCf_swap y x
    have h2:nmCf y x≠0:=fun h0=>hn (.inl (nmCf_eq h0))
    omega
   ·exact h.1 y hy
section
variable {st:Nat} {l rl:List (List Nat × Nat)}
theorem RLk.take (h:RLk l rl) (s:ByteArray):(tkR s (some (st,l),0)).1=(if (rfT s st rl).2=0 then st else 0,(rfT s st rl).2)∧RLk (tkL s st l) (rfT s st rl).1:=by
 have hl:=h.perm.length_eq
 have hfn:=h.fnd s
 have ht:tkR s (some (st,l),0)=if nmOk s=false then ((0,15),[]) else if 0≤fndS s 0 l then ((0,6),[]) else if l.length=8 then ((0,4),[]) else ((st,0),l++[(bytesN s,st)]):=rfl
 have hr:rfT s st rl=if nmOk s=false then (rl,15) else if 0≤fndS s 0 rl then (rl,6) else if rl.length=8 then (rl,4) else (insN (bytesN s,st) rl,0):=rfl
 unfold tkL
 by_cases h1:nmOk s=false
 ·rw [if_pos h1] at ht hr
  rw [ht,hr]
  exact ⟨rfl,h⟩
 rw [if_neg h1] at ht hr
 by_cases h2:0≤fndS s 0 l
 ·rw [if_pos h2] at ht
  rw [if_pos (show 0≤fndS s 0 rl by omega)] at hr
  rw [ht,hr]
  exact ⟨rfl,h⟩
 rw [if_neg h2] at ht
 rw [if_neg (show ¬ 0≤fndS s 0 rl by omega)] at hr
 by_cases h3:l.length=8
 ·rw [if_pos h3] at ht
  rw [if_pos (show rl.length=8 by omega)] at hr
  rw [ht,hr]
  exact ⟨rfl,h⟩
 rw [if_neg h3] at ht
 rw [if_neg (show ¬ rl.length=8 by omega)] at hr
 rw [ht,hr]
 refine ⟨rfl,?_⟩
 show RLk (l++[(bytesN s,st)]) (insN (bytesN s,st) rl)
 have hneg:fndS s 0 rl < 0:=by omega
 rw [fndS_neg] at hneg
 refine ⟨((insN_perm _ rl).trans (h.perm.cons _)).trans (List.perm_append_comm (l₁:=[(bytesN s,st)]) (l₂:=l)),insN_up _ _ h.up ?_⟩
 show strN (bytesN s) ∉ _
 rw [strN_bytesN]
 exact hneg
theorem RLk.drop (h:RLk l rl) (hn:(l.map nmS).Nodup) (s:ByteArray):(drpR s (some (st,l),0)).1=(rfD s rl).2∧RLk (dpL s st l) (rfD s rl).1:=by
 have hfn:=h.fnd s
 have e:drpR s (some (st,l),0)=if fndS s 0 l < 0 then (5,[]) else (0,dropL s l):=rfl
 unfold dpL rfD
 rw [e]
 by_cases h1:fndS s 0 l < 0
 ·rw [if_pos h1,if_pos (hfn.2 h1)]
  exact ⟨rfl,h⟩
 ·rw [if_neg h1,if_neg (fun hx=>h1 (hfn.1 hx))]
  refine ⟨rfl,?_⟩
  show RLk (dropL s l) (rl.eraseIdx (fndS s 0 rl).toNat)
  obtain ⟨j,i,hj,hi,g1,g2,g3,_⟩:=h.at_ hn h1
  rw [g2,Int.toNat_natCast]
  have p1:=dropL_perm hj g1
  have p2:(rl[i] :: rl.eraseIdx i).Perm rl:=by
   have e3:rl.take i++rl[i] :: rl.drop (i+1)=rl:=by rw [List.getElem_cons_drop,List.take_append_drop]
   rw [List.eraseIdx_eq_take_drop_succ]
   refine (List.perm_middle.symm).trans ?_
   rw [e3]
  rw [g3] at p1
  exact ⟨(List.perm_cons _).1 ((p2.trans h.perm).trans p1.symm),h.up.sublist (List.eraseIdx_sublist _ _)⟩
theorem RLk.get (h:RLk l rl) (hn:(l.map nmS).Nodup) (s:ByteArray):getR s (some (st,l),0)=rfG s rl:=by
 have hfn:=h.fnd s
 have e:getR s (some (st,l),0)=if fndS s 0 l < 0 then (0,5) else ((l.getD (fndS s 0 l).toNat ([],0)).2,0):=rfl
 rw [e]
 unfold rfG
 by_cases h1:fndS s 0 l < 0
 ·rw [if_pos h1,if_pos (hfn.2 h1)]
 ·rw [if_neg h1,if_neg (fun hx=>h1 (hfn.1 hx))]
  obtain ⟨j,i,hj,hi,g1,g2,g3,_⟩:=h.at_ hn h1
  rw [g1,g2,Int.toNat_natCast,Int.toNat_natCast,List.getD_eq_getElem?_getD,List.getD_eq_getElem?_getD,List.getElem?_eq_getElem hj,List.getElem?_eq_getElem hi,g3]
theorem RLk.min_ (h:RLk l rl) (m:Nat):minL m rl=minL m l:=minL_perm h.perm
end
end
section
open Go.RowKit Go.Maps
structure StatB (B:Nat) (x:HA) (y:WA) (gr G:Nat):Prop where
 lo:LoS x y.d y.r B G
 g:y.g < G
 u:y.u < G
 m:y.m < G
 r:gr < G
section
variable {B G:Nat} {bs:List Nat} {a:DA} {x:HA} {y:WA} {q gr T N st:Nat} {l:List (List Nat × Nat)} {w w':World}
theorem RgX.stat (h:RgX B bs a x y q gr T N st l w):StatB B x y gr w.heap.size:=by
 obtain ⟨cs,f,m,S,cur,h1,h2,h3,h4,h5⟩:=h
 exact ⟨h1.bw.sd.lo,h1.bw.blk.lt,h1.bw.und.lt,h1.bw.mgr.lt,h2.lt⟩
theorem RgX.chg (h:RgX B bs a x y q gr T N st l w) (hs:StatB B x y gr G) {Z:Fp} (hc:Chg Z w w') (hZ:∀ k,Z k→G≤k∧k∈bs):RgX B bs a x y q gr T N st l w':=by
 obtain ⟨cs,f,m,S,cur,h1,h2,h3,h4,h5⟩:=h
 have hn:∀ g,g < G→¬ Z g:=fun g hg hz=>by have:=(hZ g hz).1;omega
 refine ⟨cs,f,m,S,cur,{ h1 with bw:={ h1.bw with sd:=h1.bw.sd.chg hs.lo hc (fun k hk=>⟨fun hS=>(h5 k (hZ k hk).2).2 (.inl hS),(hZ k hk).1⟩),blk:=hc.blk h1.bw.blk (hn _ hs.g),und:=hc.blk h1.bw.und (hn _ hs.u),mgr:=hc.blk h1.bw.mgr (hn _ hs.m) } },hc.blk h2 (hn _ hs.r),h3,Nat.le_trans h4 hc.size,fun g hg=>⟨Nat.lt_of_lt_of_le (h5 g hg).1 hc.size,(h5 g hg).2⟩⟩
theorem RgX.setCell (h:RgX B bs a x y q gr T N st l w) (hs:StatB B x y gr G) {p:Addr} (hG:G≤p.block) (hp:p.block∈bs) (v:Value):RgX B bs a x y q gr T N st l (w.setCell p v) :=
 h.chg hs ((Chg.refl (fun k=>k=p.block) w).setCell (.inl rfl) v) (fun k hk=>by subst hk;exact ⟨hG,hp⟩)
end
end
section
open Go.RowKit Go.Maps
section
variable {B G:Nat} {bs:List Nat} {a:DA} {x:HA} {y:WA} {q gr T N st:Nat} {l:List (List Nat × Nat)} {w w':World}
theorem RgX.linked (h:RgX B bs a x y q gr T N st l w):Calls Tryz.prog 33 #[.pointer (some ⟨y.g,0,none⟩), .int .i64 0] w fun e w'=>e = .returned (.int .u64 (q:Int))∧w'=w.drew:=by
 obtain ⟨cs,f,m,S,cur,h1,_⟩:=h
 have h2:=linked_any h1.bw 0 (by decide)
 rw [show 416+0=416 from rfl,h1.link] at h2
 exact h2
theorem RgX.lt64 (h:RgX B bs a x y q gr T N st l w):q < 18446744073709551616∧pAt q 0=pOff q∧∀ j:Nat,j < 60→pAt q j=pOff q+8 * j:=by
 obtain ⟨cs,f,m,S,cur,h1,_⟩:=h
 have hne:=(h1.pay (by decide)).ne
 refine ⟨h1.lo.2,?_,fun j hj=>?_⟩
 ·unfold pAt
  rw [if_neg (by omega)]
  omega
 ·unfold pAt
  rw [if_neg (by omega)]
theorem RgX.cells (h:RgX B bs a x y q gr T N st l w):w.cell? ⟨y.g,0,none⟩=some (.pointer (some ⟨a.d,0,none⟩))∧w.cell? ⟨y.g,1,none⟩=some (.pointer (some ⟨a.th 0,0,none⟩))∧w.cell? ⟨y.g,2,none⟩=some (.pointer (some ⟨x.h,0,none⟩))∧w.cell? ⟨y.g,3,none⟩=some (.pointer (some ⟨y.d,0,none⟩)):=by
 obtain ⟨cs,f,m,S,cur,h1,_⟩:=h
 exact ⟨h1.bw.blk.cell 0,h1.bw.blk.cell 1,h1.bw.blk.cell 2,h1.bw.blk.cell 3⟩
end
end
section
open Go.RowKit Go.Maps
section
variable (st:Nat) (A:Option Addr) (n c:Nat) (l:List (List Nat × Nat)) (s:ByteArray) (w:World)
theorem refFind_any (h:Reads w w.heap.size 2 A n (itCells l)) (hn:n≤100000) :
  Calls Tryz.prog 269 #[.agg #[.int .u64 (st:Int), .slice A n c], .string s] w fun e w'=>e = .returned (.int .i64 (fndS s 0 l))∧Below w.heap.size w w':=by
 have hl0:l.length=n:=by have:=h.1;rw [itCells_len] at this;omega
 obtain ⟨W1,hW1⟩:∃ W1,w.alloc (.cells #[.int .u64 (st:Int), .slice A n c] 130)=W1:=⟨_,rfl⟩
 have hb1:Below w.heap.size w W1:=by rw [← hW1];exact (Below.refl _ _).alloc (Nat.le_refl _) _
 have hk1:Blk W1 w.heap.size 130 #[.int .u64 (st:Int), .slice A n c]:=by rw [← hW1];exact Blk.new _ _ _
 have HR:=hid ((h.below hb1).more hb1.size)
 have HL:=hid hl0
 have HB1:=hid hb1
 have HW1:=hid hW1
 have HB0:Hid (Below W1.heap.size W1 W1):=hid (Below.refl _ _)
 obtain ⟨Y,hY⟩:∃ Y,fndS s 0 l=Y:=⟨_,rfl⟩
 rw [hY]
 have HN0:Hid (Y=fndS s 0 (l.drop 0)):=hid (by rw [List.drop_zero,hY])
 have k1:=hk1.cell 1
 clear h hl0 hY hb1 hk1 hW1
 go_enter Tryz.func269,Tryz.ntmps269
 go_upto_region 1 with fail
 rw [HW1.out]
 go_wp2_with fail
 go_loopw [10] (fun v wr=>∃ k:Nat,k≤n∧v = .int .i64 (k:Int)∧Hid (Y=fndS s k (l.drop k))∧Hid (Below W1.heap.size W1 wr)) (fun v _=>n - (Go.RowKit.intOf v).toNat)
 case atStart=>exact ⟨0,Nat.zero_le _,rfl,HN0,HB0⟩
 case round =>
  clear HN0 HB0
  obtain ⟨k,hk,rfl,HN,H⟩:=hrel
  by_cases hlt:k < n
  ·obtain ⟨hkl,gb,go,hA3,_,f0,f1⟩:=it_facts ((HR.out.below H.out).more H.out.size) (k:=k) hlt
   subst hA3
   have HS:Hid (Y=if strN (l[k]).1=s then (k:Int) else fndS s (k+1) (l.drop (k+1))):=hid (by
    rw [HN.out,List.drop_eq_getElem_cons hkl]
    rfl)
   generalize l[k]=p at *
   obtain ⟨pn,pv⟩:=p
   dsimp only at f0 f1 HS
   have hz5:(0:Int)≤(k:Int):=by omega
   have hz6:(k:Int) < (n:Int):=by omega
   have HBa:Hid (Below W1.heap.size W1 (wr.alloc (.cells #[.string (strN pn), .int .u64 (pv:Int)] 261))):=hid (H.out.alloc H.out.size _)
   by_cases hx:strN pn=s
   ·have HS2:Hid (Y=(k:Int)):=hid (by rw [HS.out,if_pos hx])
    have e:((strN pn).toList == s.toList)=true:=by rw [strEq,decide_eq_true hx]
    clear HS HN hkl hx
    go_wp2_with fail
    go_ret
    rw [HS2.out]
    exact ⟨rfl,HB1.out.trans (HBa.out.mono HB1.out.size)⟩
   ·have HS2:Hid (Y=fndS s (k+1) (l.drop (k+1))):=hid (by rw [HS.out,if_neg hx])
    have e:((strN pn).toList == s.toList)=false:=by rw [strEq,decide_eq_false hx]
    clear HS HN hkl hx
    go_wp2_with fail
    go_roundw
    case rel =>
     first
      | exact ⟨k+1,by omega,by go_num,HS2,HBa⟩
      | (
        repeat apply Exists.intro
        refine ⟨?_,rfl⟩
        exact ⟨k+1,by omega,by go_num,HS2,HBa⟩)
    case measure=>simp [Go.RowKit.intOf];omega
  ·have HS2:Hid (Y = -1):=hid (by rw [HN.out,List.drop_of_length_le (by have:=HL.out;omega)];rfl)
   obtain rfl:k=n:=by omega
   clear hlt hk
   go_wp2_with fail
   go_ret
   rw [HS2.out]
   exact ⟨rfl,HB1.out.trans (H.out.mono HB1.out.size)⟩
theorem refGet_any (h:Reads w w.heap.size 2 A n (itCells l)) (hn:n≤100000) :
  Calls Tryz.prog 156 #[.agg #[.int .u64 (st:Int), .slice A n c], .string s] w fun e w'=>e = .returned (.tuple #[.int .u64 ((rfG s l).1:Int), .int .i64 ((rfG s l).2:Int)])∧Below w.heap.size w w':=by
 have hl0:l.length=n:=by have:=h.1;rw [itCells_len] at this;omega
 obtain ⟨W1,hW1⟩:∃ W1,w.alloc (.cells #[.int .u64 (st:Int), .slice A n c] 130)=W1:=⟨_,rfl⟩
 have hb1:Below w.heap.size w W1:=by rw [← hW1];exact (Below.refl _ _).alloc (Nat.le_refl _) _
 have hk1:Blk W1 w.heap.size 130 #[.int .u64 (st:Int), .slice A n c]:=by rw [← hW1];exact Blk.new _ _ _
 have HR:=hid ((h.below hb1).more hb1.size)
 have HL:=hid hl0
 have HB1:=hid hb1
 have HW1:=hid hW1
 have HK1:=hid hk1
 have HFn:=hid (refFind_any st A n c l s W1 ((h.below hb1).more hb1.size) hn)
 have HGe:=hid (fndS_ge s 0 l)
 have HY:Hid (rfG s l=if fndS s 0 l < 0 then (0,5) else ((l.getD (fndS s 0 l).toNat ([],0)).2,0)):=hid rfl
 generalize rfG s l=Y at *
 obtain ⟨fi,hfi⟩:∃ fi,fndS s 0 l=fi:=⟨_,rfl⟩
 rw [hfi] at HFn HGe HY
 have k0:=hk1.cell 0
 have k1:=hk1.cell 1
 clear h hl0 hb1 hk1 hW1 hfi
 go_enter Tryz.func156,Tryz.ntmps156
 go_upto_region 1 with fail
 rw [HW1.out]
 go_upto_region 2 with (go_at_call 269;refine HFn.out.mono ?_;rintro e w2 ⟨rfl,hb2⟩;have HB2:=hid hb2;clear hb2)
 by_cases hf:fi < 0
 ·have HY2:Hid (Y=(0,5)):=hid (by rw [HY.out,if_pos hf])
  clear HY
  go_wp2_with fail
  go_ret2
  rw [HY2.out]
  exact ⟨rfl,HB1.out.trans (HB2.out.mono HB1.out.size)⟩
 ·obtain ⟨j,hj⟩:∃ j:Nat,fi=(j:Int):=⟨fi.toNat,by omega⟩
  subst hj
  have hge:=HGe.out.2.1
  have hjl:j < l.length:=by omega
  have HY2:Hid (Y=((l.getD j ([],0)).2,0)):=hid (by rw [HY.out,if_neg hf,Int.toNat_natCast])
  have hm:=HL.out
  have k2:=(HK1.out.below HB2.out HK1.out.lt).cell 1
  obtain ⟨hkl,gb,go,hA3,_,f0,f1⟩:=it_facts (HR.out.below HB2.out) (k:=j) (by omega)
  have hz5:(0:Int)≤(j:Int):=by omega
  have hz6:(j:Int) < (n:Int):=by omega
  subst hA3
  have HE:Hid (l.getD j ([],0)=l[j]):=hid (by rw [List.getD_eq_getElem?_getD,List.getElem?_eq_getElem hkl];rfl)
  clear hf hge hm HY k0 k1
  go_wp2_with fail
  go_ret2
  rw [HY2.out,HE.out]
  exact ⟨rfl,HB1.out.trans (HB2.out.mono HB1.out.size)⟩
theorem refOldest_any (h:Reads w w.heap.size 2 A n (itCells l)) (hn:n≤100000) :
  Calls Tryz.prog 154 #[.agg #[.int .u64 (st:Int), .slice A n c]] w fun e w'=>e = .returned (.int .u64 (minL st l:Int))∧Below w.heap.size w w':=by
 have hl0:l.length=n:=by have:=h.1;rw [itCells_len] at this;omega
 obtain ⟨W1,hW1⟩:∃ W1,w.alloc (.cells #[.int .u64 (st:Int), .slice A n c] 130)=W1:=⟨_,rfl⟩
 have hb1:Below w.heap.size w W1:=by rw [← hW1];exact (Below.refl _ _).alloc (Nat.le_refl _) _
 have hk1:Blk W1 w.heap.size 130 #[.int .u64 (st:Int), .slice A n c]:=by rw [← hW1];exact Blk.new _ _ _
 have HR:=hid ((h.below hb1).more hb1.size)
 have HL:=hid hl0
 have HB1:=hid hb1
 have HW1:=hid hW1
 have HB0:Hid (Below W1.heap.size W1 W1):=hid (Below.refl _ _)
 have k0:=hk1.cell 0
 have k1:=hk1.cell 1
 clear h hl0 hb1 hk1 hW1
 go_enter Tryz.func154,Tryz.ntmps154
 go_upto_region 1 with fail
 rw [HW1.out]
 go_wp2_with fail
 go_loopw [3,11] (fun v i wr=>∃ k:Nat,k≤n∧i = .int .i64 (k:Int)∧v = .int .u64 (minL st (l.take k):Int)∧Hid (Below W1.heap.size W1 wr)) (fun _ i _=>n - (Go.RowKit.intOf i).toNat)
 case atStart=>exact ⟨0,Nat.zero_le _,rfl,rfl,HB0⟩
 case round =>
  clear HB0
  obtain ⟨k,hk,rfl,rfl,HB⟩:=hrel
  by_cases hlt:k < n
  ·obtain ⟨hkl,gb,go,hA3,_,f0,f1⟩:=it_facts ((HR.out.below HB.out).more HB.out.size) (k:=k) hlt
   subst hA3
   have HMin:=hid (minL_take st l k hkl)
   generalize l[k]=p at *
   obtain ⟨pn,pv⟩:=p
   dsimp only at f0 f1 HMin
   have hz5:(0:Int)≤(k:Int):=by omega
   have hz6:(k:Int) < (n:Int):=by omega
   have HBa:Hid (Below W1.heap.size W1 (wr.alloc (.cells #[.string (strN pn), .int .u64 (pv:Int)] 261))):=hid (HB.out.alloc HB.out.size _)
   generalize minL st (l.take k)=mm at *
   clear hkl
   by_cases hmp:mm≤pv
   ·have hmi:(mm:Int)≤(pv:Int):=by omega
    have HM2:Hid (minL st (l.take (k+1))=mm):=hid (by rw [HMin.out,Nat.min_eq_left hmp])
    clear hmp HMin
    go_wp2_with fail
    go_roundw
    case rel =>
     first
      | exact ⟨k+1,by omega,by go_num,by rw [HM2.out];first | rfl | (congr 1;omega),HBa⟩
      | (
        repeat apply Exists.intro
        refine ⟨?_,rfl⟩
        exact ⟨k+1,by omega,by go_num,by rw [HM2.out];first | rfl | (congr 1;omega),HBa⟩)
    case measure=>simp [Go.RowKit.intOf];omega
   ·have hmi:(pv:Int) < (mm:Int):=by omega
    have HM2:Hid (minL st (l.take (k+1))=pv):=hid (by rw [HMin.out,Nat.min_eq_right (by omega)])
    clear hmp HMin
    go_wp2_with fail
    go_roundw
    case rel =>
     first
      | exact ⟨k+1,by omega,by go_num,by rw [HM2.out];first | rfl | (congr 1;omega),HBa⟩
      | (
        repeat apply Exists.intro
        refine ⟨?_,rfl⟩
        exact ⟨k+1,by omega,by go_num,by rw [HM2.out];first | rfl | (congr 1;omega),HBa⟩)
    case measure=>simp [Go.RowKit.intOf];omega
  ·obtain rfl:k=n:=by omega
   have HT:Hid (l.take k=l):=hid (List.take_of_length_le (by rw [HL.out];exact Nat.le_refl _))
   clear hlt hk
   go_wp2_with fail
   go_ret
   rw [HT.out]
   exact ⟨rfl,HB1.out.trans (HB.out.mono HB1.out.size)⟩
end
end
end Go.Proofs.YtfkjjoglnmeciaaGreatDoor

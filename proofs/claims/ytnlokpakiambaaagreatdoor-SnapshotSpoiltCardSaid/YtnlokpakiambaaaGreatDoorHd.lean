/- The walks and laws that the claim leans on. -/
import Derived.Test.YtnlokpakiambaaaGreatDoorHa
import Derived.Test.YtnlokpakiambaaaGreatDoorProg
import Derived.WalkSpells
import Derived.WalkLawsBesides
import Derived.Deep.AppendLies
import Derived.Deep.OwnRows
import Derived.Lib.Hide
import Derived.StillTail
import Derived.Deep.RegionHeld3
import Derived.Deep.CutBlock
import Derived.Lib.ItoaNum
import Derived.Lib.AppendZeros
import Derived.Lib.BufferMore
import Derived.Lib.Zigzag
import Derived.Shelf.SlMaps.Clone
import Derived.Shelf.SlIter.Sorted
import Derived.Lib.QuoteBits
import Derived.Lib.SlKeysI
import Derived.Deep.Onto
import Derived.Laws.CopyOwn
import Derived.Lib.ConvBytes
import Derived.Lib.BytesEntry
import Derived.Lib.SlBytesConst
import Derived.Shelf.SlSortCmp.NoneTotal
set_option maxRecDepth 100000
set_option maxHeartbeats 16000000
namespace Go.Proofs.YtnlokpakiambaaaGreatDoor
open Go.Lib (hid)
section
open Go.RowKit Go.Maps
structure RgU (a:DA) (L T K:Nat) (x:HA) (y:WA) (cs:Nat→CS) (f:Nat→Option Nat) (N m b0:Nat) (S:Fp) (cur:Nat→Nat) (q:Nat) (w:World):Prop where
 bw:BW a L T K x y cs f N m b0 S cur w
 live:∃ k i,LiveA 53 K cs q 8 k i∧(cs k).cl=4
section
variable {a:DA} {L T K:Nat} {x:HA} {y:WA} {cs:Nat→CS} {f:Nat→Option Nat} {N m b0:Nat} {S:Fp} {cur:Nat→Nat} {q st:Nat} {l:List (List Nat × Nat)} {w w':World}
theorem RgU.below (h:RgU a L T K x y cs f N m b0 S cur q w) (hb:Below w.heap.size w w'):RgU a L T K x y cs f N m b0 S cur q w':={ h with bw:=h.bw.below hb }
theorem RgU.pay (h:RgU a L T K x y cs f N m b0 S cur q w) (hL:64 * L≤900000):PayOk L 53 K cs q:=by
 obtain ⟨k,i,h1,h2⟩:=h.live
 exact payOk_of h.bw.sd.ds h1 h2 hL
theorem RgU.lo (h:RgU a L T K x y cs f N m b0 S cur q w):3400≤pOff q∧q < 18446744073709551616:=by
 obtain ⟨k,i,h1,_⟩:=h.live
 have:=h1.at_.lo
 exact ⟨by omega,h1.lt⟩
theorem RgU.rd (h:RgU a L T K x y cs f N m b0 S cur q w) (hL:64 * L≤900000) {g:Nat} (hg:Blk w g 153 #[.int .u64 (q:Int)]):RdC (.pointer (some ⟨g,0,none⟩)) (.iface 43 (.pointer (some ⟨y.d,0,none⟩))) w (rgR cur (fun p=>chkR 53 K cs p 8) q):=by
 have hp:=h.pay hL
 exact rgRead_any h.bw.sd g q hg h.lo.2 (fun _=>⟨hp.ne,hp.al,hp.inl⟩)
def RuTo (a:DA) (L T K:Nat) (x:HA) (y:WA) (cs:Nat→CS) (f:Nat→Option Nat) (N m b0:Nat) (S:Fp) (w:World) (q:Nat) (w':World):Prop:=∃ S' cur',RgU a L (T+800) K x y cs f N m b0 S' cur' q w'∧Chg (sfp S x) w w'∧Grew S S' w
theorem RgU.stay (h:RgU a L T K x y cs f N m b0 S cur q w) (hT:T+800≤1000000000) (hb:Below w.heap.size w w'):RuTo a L T K x y cs f N m b0 S w q w' :=
 ⟨S,cur,{ h with bw:=(h.bw.below hb).more (by omega) hT (Nat.le_refl _) },Chg.of_below hb,Grew.refl _ _⟩
theorem RgU.pub (h:RgU a L T K x y cs f N m b0 S cur q w) (hL:64 * L≤900000) (xs:List Nat) {cm:Nat} {S':Fp} (hsd:SD a L (T+800) 53 (32 * K) K x cs f N m b0 S' (rdG 0 cur (flW cur (plOf (pOff q+8) xs)) cm) w' y.d y.r) (hch:Chg (sfp S x) w w') (hgr:Grew S S' w):RuTo a L T K x y cs f N m b0 S w q w':=by
 have hP:=h.pay hL
 have hlo:=h.lo.1
 have hal:=hP.al
 have h8:(pOff q+8) % 8=0:=by omega
 refine ⟨S',_,⟨h.bw.keep hsd hch hgr ?_,h.live⟩,hch,hgr⟩
 rw [plOf_far (cm:=cm) (cur:=cur) (xs:=xs) h8 (by omega) (.inl (by omega))]
 exact h.bw.uid
theorem RgU.take_ (h:RgU a L T K x y cs f N m b0 S cur q w) (hL:64 * L≤900000) {g:Nat} (hg:Blk w g 153 #[.int .u64 (q:Int)]) (nm:ByteArray) (hs:nm.size≤9223372036854775807) (hT:T+800≤1000000000) (hN:N≤1000000000) :
  Calls Tryz.prog 36 #[.pointer (some ⟨g,0,none⟩), .iface 43 (.pointer (some ⟨y.d,0,none⟩)), .string nm] w fun e w'=>(∃ n1 n2:Nat,e = .returned (.tuple #[.int .u64 (n1:Int), .int .i64 (n2:Int)]))∧RuTo a L T K x y cs f N m b0 S w q w':=by
 have hrd:=h.rd hL hg
 have hok:=rgOk cur (fun p=>chkR 53 K cs p 8) q
 by_cases he:(tkR nm (rgR cur (fun p=>chkR 53 K cs p 8) q)).1.2=0
 ·obtain ⟨⟨R1,c⟩,hR⟩:∃ R,rgR cur (fun p=>chkR 53 K cs p 8) q=R:=⟨_,rfl⟩
  rw [hR] at hrd hok he
  rcases R1 with _ | ⟨st,l⟩
  ·exfalso
   have h1:=hok.none_ rfl
   unfold tkR at he
   split at he
   ·exact absurd he (by decide)
   ·exact h1 he
  ·have hc:c=0:=by
    unfold rgR at hR
    split at hR
    ·cases hR
    ·split at hR
     ·cases hR
     ·split at hR
      ·injection hR with _ h2
       exact h2.symm
      ·cases hR
   subst hc
   obtain ⟨h1,h2,h3,h4⟩:=tkR_ok he
   refine (take_ok h.bw.sd h.bw.few g q hg (h.pay hL) st l hrd hok nm h1 h2 h3 hT hN).mono ?_
   rintro e w' ⟨cm,S',rfl,q1,q2,q3,q4⟩
   exact ⟨⟨st,0,rfl⟩,h.pub hL _ q2 q3 q4⟩
 ·exact (take_err hrd hok nm hs he).mono (fun e w' h2=>⟨⟨0,_,h2.1⟩,h.stay hT h2.2⟩)
theorem RgU.drop_ (h:RgU a L T K x y cs f N m b0 S cur q w) (hL:64 * L≤900000) {g:Nat} (hg:Blk w g 153 #[.int .u64 (q:Int)]) (nm:ByteArray) (hT:T+800≤1000000000) (hN:N≤1000000000) :
  Calls Tryz.prog 40 #[.pointer (some ⟨g,0,none⟩), .iface 43 (.pointer (some ⟨y.d,0,none⟩)), .string nm] w fun e w'=>(∃ n2:Nat,e = .returned (.int .i64 (n2:Int)))∧RuTo a L T K x y cs f N m b0 S w q w':=by
 have hrd:=h.rd hL hg
 have hok:=rgOk cur (fun p=>chkR 53 K cs p 8) q
 by_cases he:(drpR nm (rgR cur (fun p=>chkR 53 K cs p 8) q)).1=0
 ·obtain ⟨⟨R1,c⟩,hR⟩:∃ R,rgR cur (fun p=>chkR 53 K cs p 8) q=R:=⟨_,rfl⟩
  rw [hR] at hrd hok he
  rcases R1 with _ | ⟨st,l⟩
  ·exact absurd he (hok.none_ rfl)
  ·have hc:c=0:=by
    unfold rgR at hR
    split at hR
    ·cases hR
    ·split at hR
     ·cases hR
     ·split at hR
      ·injection hR with _ h2
       exact h2.symm
      ·cases hR
   subst hc
   obtain ⟨h1,h4⟩:=drpR_ok he
   refine (drop_ok h.bw.sd h.bw.few g q hg (h.pay hL) st l hrd hok nm h1 hT hN).mono ?_
   rintro e w' ⟨cm,S',rfl,q1,q2,q3,q4⟩
   exact ⟨⟨0,rfl⟩,h.pub hL _ q2 q3 q4⟩
 ·exact (drop_err hrd hok nm he).mono (fun e w' h2=>⟨⟨_,h2.1⟩,h.stay hT h2.2⟩)
end
def RgV (B:Nat) (bs:List Nat) (a:DA) (x:HA) (y:WA) (q gr T N:Nat) (w:World):Prop:=∃ cs f m S cur,RgU a 149 T 3 x y cs f N m B S cur q w∧Blk w gr 153 #[.int .u64 (q:Int)]∧¬ sfp S x gr∧B≤w.heap.size∧∀ g∈bs,g < w.heap.size∧¬ sfp S x g
section
variable {B:Nat} {bs:List Nat} {a:DA} {x:HA} {y:WA} {q gr T N st:Nat} {l:List (List Nat × Nat)} {w w':World}
theorem RgV.below (h:RgV B bs a x y q gr T N w) (hb:Below w.heap.size w w'):RgV B bs a x y q gr T N w':=by
 obtain ⟨cs,f,m,S,cur,h1,h2,h3,h4,h5⟩:=h
 exact ⟨cs,f,m,S,cur,h1.below hb,h2.below hb h2.lt,h3,Nat.le_trans h4 hb.size,fun g hg=>⟨Nat.lt_of_lt_of_le (h5 g hg).1 hb.size,(h5 g hg).2⟩⟩
theorem RgV.g3 (h:RgV B bs a x y q gr T N w):w.cell? ⟨y.g,3,none⟩=some (.pointer (some ⟨y.d,0,none⟩))∧w.cell? ⟨y.g,1,none⟩=some (.pointer (some ⟨a.th 0,0,none⟩)):=by
 obtain ⟨cs,f,m,S,cur,h1,_⟩:=h
 exact ⟨h1.bw.blk.cell 3,h1.bw.blk.cell 1⟩
theorem rgv_step {cs:Nat→CS} {f:Nat→Option Nat} {m:Nat} {S S':Fp} {cur:Nat→Nat} (h1:BW a 149 T 3 x y cs f N m B S cur w) (h2:Blk w gr 153 #[.int .u64 (q:Int)]) (h3:¬ sfp S x gr) (h4:B≤w.heap.size) (h5:∀ g∈bs,g < w.heap.size∧¬ sfp S x g) (g2:Chg (sfp S x) w w') (g3:Grew S S' w) :
  Blk w' gr 153 #[.int .u64 (q:Int)]∧¬ sfp S' x gr∧B≤w'.heap.size∧(∀ g∈bs,g < w'.heap.size∧¬ sfp S' x g)∧Below B w w'∧KeptB bs w w':=by
 have hb:Below B w w':=g2.toBelow h4 (fun i hi=>sfp_old h1.sd hi)
 have hno:∀ g,g < w.heap.size→¬ sfp S x g→¬ sfp S' x g:=fun g hg hz hz'=>by
  rcases hz' with hz' | hz'
  ·rcases g3 _ hz' with e | e
   ·exact hz (.inl e)
   ·exact absurd hg (Nat.not_lt.2 e)
  ·exact hz (.inr hz')
 exact ⟨g2.blk h2 h3,hno gr h2.lt h3,Nat.le_trans h4 hb.size,fun g hg=>⟨Nat.lt_of_lt_of_le (h5 g hg).1 g2.size,hno g (h5 g hg).1 (h5 g hg).2⟩,hb,fun g hg=>g2.block g (h5 g hg).1 (h5 g hg).2⟩
theorem RgV.rd (h:RgV B bs a x y q gr T N w):∃ R,RdC (.pointer (some ⟨gr,0,none⟩)) (.iface 43 (.pointer (some ⟨y.d,0,none⟩))) w R∧RgOk R:=by
 obtain ⟨cs,f,m,S,cur,h1,h2,_⟩:=h
 exact ⟨_,h1.rd (by decide) h2,rgOk _ _ _⟩
theorem RgV.list (h:RgV B bs a x y q gr T N w):Calls Tryz.prog 42 #[.pointer (some ⟨gr,0,none⟩), .iface 43 (.pointer (some ⟨y.d,0,none⟩))] w fun e w'=>(∃ A m c,e = .returned (.slice A m c)∧m≤8)∧Below w.heap.size w w':=by
 obtain ⟨R,h1,h2⟩:=h.rd
 have hfin:∀ {l:List (List Nat × Nat)} {e w'},l.length≤8→RetLi w l e w'→(∃ A m c,e = .returned (.slice A m c)∧m≤8)∧Below w.heap.size w w':=fun hl h=>by
  obtain ⟨A,m,c,l',he,hs,ho,hb⟩:=h
  refine ⟨⟨A,m,c,he,?_⟩,hb⟩
  have h1:=ho.1
  rw [itCells_len] at h1
  have:=hs.len
  omega
 cases hR:R.1 with
 | none=>exact (list_none (fun {_ _ _ _ _ _} h hm=>nmSort_any h hm) h1 hR).mono (fun e w' h=>hfin (by decide) h)
 | some p=>exact (list_some (fun {_ _ _ _ _ _} h hm=>nmSort_any h hm) h1 h2 p.1 p.2 hR).mono (fun e w' h=>hfin (h2.some_ p hR).2.1 h)
theorem RgV.oldest (h:RgV B bs a x y q gr T N w):Calls Tryz.prog 41 #[.pointer (some ⟨gr,0,none⟩), .iface 43 (.pointer (some ⟨y.d,0,none⟩))] w fun e w'=>(∃ n:Nat,e = .returned (.int .u64 (n:Int)))∧Below w.heap.size w w':=by
 obtain ⟨R,h1,h2⟩:=h.rd
 exact (oldest_any h1 h2).mono (fun e w' h=>⟨⟨_,h.1⟩,h.2⟩)
theorem RgV.get (h:RgV B bs a x y q gr T N w) (nm:ByteArray):Calls Tryz.prog 45 #[.pointer (some ⟨gr,0,none⟩), .iface 43 (.pointer (some ⟨y.d,0,none⟩)), .string nm] w fun e w'=>(∃ n1 n2:Nat,e = .returned (.tuple #[.int .u64 (n1:Int), .int .i64 (n2:Int)]))∧Below w.heap.size w w':=by
 obtain ⟨R,h1,h2⟩:=h.rd
 exact (get_any h1 h2 nm).mono (fun e w' h=>⟨⟨_,_,h.1⟩,h.2⟩)
theorem RgV.next_ (h:RgV B bs a x y q gr T N w):Calls Tryz.prog 34 #[.pointer (some ⟨gr,0,none⟩), .iface 43 (.pointer (some ⟨y.d,0,none⟩))] w fun e w'=>(∃ (n:Nat) (A:Option Addr) (m c:Nat),e = .returned (.tuple #[.int .u64 (n:Int), .slice A m c]))∧Below w.heap.size w w':=by
 obtain ⟨R,h1,h2⟩:=h.rd
 obtain ⟨cs,f,m,S,cur,e1,e2,_⟩:=h
 have hfin:∀ (z:Nat × List (Nat × Nat)) {e w'},RetNx w z e w'→(∃ (n:Nat) (A:Option Addr) (m c:Nat),e = .returned (.tuple #[.int .u64 (n:Int), .slice A m c]))∧Below w.heap.size w w'
  | (n,[]),_,_,h=>⟨⟨n,none,0,0,h.1⟩,h.2⟩
  | (n,u :: us),_,_,h=>by
   obtain ⟨⟨g,_,h1,_⟩,h2⟩:=h
   exact ⟨⟨n,some ⟨g,0,none⟩,1,1,h1⟩,h2⟩
 cases hR:R.1 with
 | none=>exact (next_none h1 hR h2).mono (fun e w' h=>hfin _ h)
 | some p=>exact (next_some gr q h1 h2 e2 (by rw [hR];intro hn;cases hn) (e1.pay (by decide)).ne).mono (fun e w' h=>hfin _ h)
theorem RgV.take_ (h:RgV B bs a x y q gr T N w) (nm:ByteArray) (hs:nm.size≤9223372036854775807) (hT:T+800≤1000000000) (hN:N≤1000000000) :
  Calls Tryz.prog 36 #[.pointer (some ⟨gr,0,none⟩), .iface 43 (.pointer (some ⟨y.d,0,none⟩)), .string nm] w fun e w'=>(∃ n1 n2:Nat,e = .returned (.tuple #[.int .u64 (n1:Int), .int .i64 (n2:Int)]))∧RgV B bs a x y q gr (T+800) N w'∧Below B w w'∧KeptB bs w w':=by
 obtain ⟨cs,f,m,S,cur,h1,h2,h3,h4,h5⟩:=h
 refine (h1.take_ (by decide) h2 nm hs hT hN).mono ?_
 rintro e w' ⟨he,S',cur',g1,g2,g3⟩
 obtain ⟨p1,p2,p3,p4,p5,p6⟩:=rgv_step h1.bw h2 h3 h4 h5 g2 g3
 exact ⟨he,⟨cs,f,m,S',cur',g1,p1,p2,p3,p4⟩,p5,p6⟩
theorem RgV.drop_ (h:RgV B bs a x y q gr T N w) (nm:ByteArray) (hT:T+800≤1000000000) (hN:N≤1000000000) :
  Calls Tryz.prog 40 #[.pointer (some ⟨gr,0,none⟩), .iface 43 (.pointer (some ⟨y.d,0,none⟩)), .string nm] w fun e w'=>(∃ n2:Nat,e = .returned (.int .i64 (n2:Int)))∧RgV B bs a x y q gr (T+800) N w'∧Below B w w'∧KeptB bs w w':=by
 obtain ⟨cs,f,m,S,cur,h1,h2,h3,h4,h5⟩:=h
 refine (h1.drop_ (by decide) h2 nm hT hN).mono ?_
 rintro e w' ⟨he,S',cur',g1,g2,g3⟩
 obtain ⟨p1,p2,p3,p4,p5,p6⟩:=rgv_step h1.bw h2 h3 h4 h5 g2 g3
 exact ⟨he,⟨cs,f,m,S',cur',g1,p1,p2,p3,p4⟩,p5,p6⟩
theorem RgV.err (h:RgV B bs a x y q gr T N w):Calls Tryz.prog 27 #[.pointer (some ⟨a.th 0,0,none⟩)] w fun e w'=>e = .returned (.int .i64 0)∧w=w':=by
 obtain ⟨cs,f,m,S,cur,h1,_⟩:=h
 exact thErr h1.bw.sd.ds.dev
theorem RgX.spoil (h:RgX B bs a x y q gr T N st l w) {j v:Nat} (hj:j < 60) (hv:v < 18446744073709551616) (hT:T+1≤1000000000) :
  Calls Tryz.prog 23 #[.pointer (some ⟨a.th 0,0,none⟩), .int .u64 ((pOff q+8 * j:Nat):Int), .int .u64 (v:Int)] w fun e w'=>e = .returned (.tuple #[])∧RgV B bs a x y q gr (T+1) N w'∧Below B w w'∧KeptB bs w w':=by
 obtain ⟨cs,f,m,S,cur,h1,h2,h3,h4,h5⟩:=h
 obtain ⟨k,i,hlv,hc⟩:=h1.live
 refine (h1.bw.storeW hlv.at_ (j:=j) (v:=v) (by rw [hc];exact hj) hv (by omega)).mono ?_
 rintro e w' ⟨rfl,S',hbw,g2,g3⟩
 obtain ⟨p1,p2,p3,p4,p5,p6⟩:=rgv_step h1.bw h2 h3 h4 h5 (g2.mono (fun _ h => .inl h)) g3
 exact ⟨rfl,⟨cs,f,m,S',_,⟨hbw,k,i,hlv,hc⟩,p1,p2,p3,p4⟩,p5,p6⟩
theorem RgX.setStamp (h:RgX B bs a x y q gr T N st [] w) {v:Nat} (hv:v≤4611686018427387903) (hT:T+1≤1000000000) :
  Calls Tryz.prog 23 #[.pointer (some ⟨a.th 0,0,none⟩), .int .u64 ((pOff q+8 * 0:Nat):Int), .int .u64 (v:Int)] w fun e w'=>e = .returned (.tuple #[])∧RgX B bs a x y q gr (T+1) N v [] w'∧Below B w w'∧KeptB bs w w':=by
 obtain ⟨cs,f,m,S,cur,h1,h2,h3,h4,h5⟩:=h
 obtain ⟨k,i,hlv,hc⟩:=h1.live
 have hlo:=h1.lo.1
 have hal:=(h1.pay (by decide)).al
 refine (h1.bw.storeW hlv.at_ (j:=0) (v:=v) (by rw [hc];decide) (by omega) (by omega)).mono ?_
 rintro e w' ⟨rfl,S',hbw,g2,g3⟩
 obtain ⟨p1,p2,p3,p4,p5,p6⟩:=rgv_step h1.bw h2 h3 h4 h5 (g2.mono (fun _ h => .inl h)) g3
 have he:∀ z,z≠pOff q / 8→wrS cur [(pOff q+8 * 0,v)] z=cur z:=fun z hz=>wrS_other _ _ _ (fun e he=>by
  rw [List.mem_singleton.1 he]
  show (pOff q+8 * 0) / 8≠z
  omega)
 refine ⟨rfl,⟨cs,f,m,S',_,⟨hbw,h1.live,fun j hj=>?_,⟨hv,by decide,fun p hp=>absurd hp (by simp),List.nodup_nil,fun p hp=>absurd hp (by simp)⟩,?_⟩,p1,p2,p3,p4⟩,p5,p6⟩
 ·rcases j with _ | j
  ·show wrS cur [(pOff q+8 * 0,v)] (pOff q / 8+0)=v
   have h6:=wrS_get [(pOff q+8 * 0,v)] cur (by simp) (fun x hx=>by rw [List.mem_singleton.1 hx];show (pOff q+8 * 0) % 8=0;omega) (pOff q+8 * 0,v) (List.mem_singleton.2 rfl)
   exact h6
  ·rw [he _ (by omega)]
   have h6:=h1.words (j+1) (by rw [List.length_cons] at hj ⊢;exact hj)
   rw [h6]
   rfl
 ·rw [he _ (by omega)]
  exact h1.link
end
end
section
open Go.RowKit Go.Maps
section
variable (st:Nat) (A:Option Addr) (n c:Nat) (l:List (List Nat × Nat)) (s:ByteArray) (w:World)
theorem refFind_any (h:Reads w w.heap.size 2 A n (itCells l)) (hn:n≤100000) :
  Calls Tryz.prog 78 #[.agg #[.int .u64 (st:Int), .slice A n c], .string s] w fun e w'=>e = .returned (.int .i64 (fndS s 0 l))∧Below w.heap.size w w':=by
 have hl0:l.length=n:=by have:=h.1;rw [itCells_len] at this;omega
 obtain ⟨W1,hW1⟩:∃ W1,w.alloc (.cells #[.int .u64 (st:Int), .slice A n c] 86)=W1:=⟨_,rfl⟩
 have hb1:Below w.heap.size w W1:=by rw [← hW1];exact (Below.refl _ _).alloc (Nat.le_refl _) _
 have hk1:Blk W1 w.heap.size 86 #[.int .u64 (st:Int), .slice A n c]:=by rw [← hW1];exact Blk.new _ _ _
 have HR:=hid ((h.below hb1).more hb1.size)
 have HL:=hid hl0
 have HB1:=hid hb1
 have HW1:=hid hW1
 have HB0:Hid (Below W1.heap.size W1 W1):=hid (Below.refl _ _)
 obtain ⟨Y,hY⟩:∃ Y,fndS s 0 l=Y:=⟨_,rfl⟩
 rw [hY]
 have HN0:Hid (Y=fndS s 0 (l.drop 0)):=hid (by rw [List.drop_zero,hY])
 have k1:=hk1.cell 1
 clear h hl0 hY hb1 hk1 hW1
 go_enter Tryz.func78,Tryz.ntmps78
 go_upto_region 1 with fail
 rw [HW1.out]
 go_wp2_with fail
 go_loopw [10] (fun v wr=>∃ k:Nat,k≤n∧v = .int .i64 (k:Int)∧Hid (Y=fndS s k (l.drop k))∧Hid (Below W1.heap.size W1 wr)) (fun v _=>n - (Go.RowKit.intOf v).toNat)
 case atStart=>exact ⟨0,Nat.zero_le _,rfl,HN0,HB0⟩
 case round =>
  clear HN0 HB0
  obtain ⟨k,hk,rfl,HN,H⟩:=hrel
  by_cases hlt:k < n
  ·obtain ⟨hkl,gb,go,hA3,_,f0,f1⟩:=it_facts ((HR.out.below H.out).more H.out.size) (k:=k) hlt
   subst hA3
   have HS:Hid (Y=if strN (l[k]).1=s then (k:Int) else fndS s (k+1) (l.drop (k+1))):=hid (by
    rw [HN.out,List.drop_eq_getElem_cons hkl]
    rfl)
   generalize l[k]=p at *
   obtain ⟨pn,pv⟩:=p
   dsimp only at f0 f1 HS
   have hz5:(0:Int)≤(k:Int):=by omega
   have hz6:(k:Int) < (n:Int):=by omega
   have HBa:Hid (Below W1.heap.size W1 (wr.alloc (.cells #[.string (strN pn), .int .u64 (pv:Int)] 155))):=hid (H.out.alloc H.out.size _)
   by_cases hx:strN pn=s
   ·have HS2:Hid (Y=(k:Int)):=hid (by rw [HS.out,if_pos hx])
    have e:((strN pn).toList == s.toList)=true:=by rw [strEq,decide_eq_true hx]
    clear HS HN hkl hx
    go_wp2_with fail
    go_ret
    rw [HS2.out]
    exact ⟨rfl,HB1.out.trans (HBa.out.mono HB1.out.size)⟩
   ·have HS2:Hid (Y=fndS s (k+1) (l.drop (k+1))):=hid (by rw [HS.out,if_neg hx])
    have e:((strN pn).toList == s.toList)=false:=by rw [strEq,decide_eq_false hx]
    clear HS HN hkl hx
    go_wp2_with fail
    go_roundw
    case rel =>
     first
      | exact ⟨k+1,by omega,by go_num,HS2,HBa⟩
      | (
        repeat apply Exists.intro
        refine ⟨?_,rfl⟩
        exact ⟨k+1,by omega,by go_num,HS2,HBa⟩)
    case measure=>simp [Go.RowKit.intOf];omega
  ·have HS2:Hid (Y = -1):=hid (by rw [HN.out,List.drop_of_length_le (by have:=HL.out;omega)];rfl)
   obtain rfl:k=n:=by omega
   clear hlt hk
   go_wp2_with fail
   go_ret
   rw [HS2.out]
   exact ⟨rfl,HB1.out.trans (H.out.mono HB1.out.size)⟩
theorem refGet_any (h:Reads w w.heap.size 2 A n (itCells l)) (hn:n≤100000) :
  Calls Tryz.prog 83 #[.agg #[.int .u64 (st:Int), .slice A n c], .string s] w fun e w'=>e = .returned (.tuple #[.int .u64 ((rfG s l).1:Int), .int .i64 ((rfG s l).2:Int)])∧Below w.heap.size w w':=by
 have hl0:l.length=n:=by have:=h.1;rw [itCells_len] at this;omega
 obtain ⟨W1,hW1⟩:∃ W1,w.alloc (.cells #[.int .u64 (st:Int), .slice A n c] 86)=W1:=⟨_,rfl⟩
 have hb1:Below w.heap.size w W1:=by rw [← hW1];exact (Below.refl _ _).alloc (Nat.le_refl _) _
 have hk1:Blk W1 w.heap.size 86 #[.int .u64 (st:Int), .slice A n c]:=by rw [← hW1];exact Blk.new _ _ _
 have HR:=hid ((h.below hb1).more hb1.size)
 have HL:=hid hl0
 have HB1:=hid hb1
 have HW1:=hid hW1
 have HK1:=hid hk1
 have HFn:=hid (refFind_any st A n c l s W1 ((h.below hb1).more hb1.size) hn)
 have HGe:=hid (fndS_ge s 0 l)
 have HY:Hid (rfG s l=if fndS s 0 l < 0 then (0,5) else ((l.getD (fndS s 0 l).toNat ([],0)).2,0)):=hid rfl
 generalize rfG s l=Y at *
 obtain ⟨fi,hfi⟩:∃ fi,fndS s 0 l=fi:=⟨_,rfl⟩
 rw [hfi] at HFn HGe HY
 have k0:=hk1.cell 0
 have k1:=hk1.cell 1
 clear h hl0 hb1 hk1 hW1 hfi
 go_enter Tryz.func83,Tryz.ntmps83
 go_upto_region 1 with fail
 rw [HW1.out]
 go_upto_region 2 with (go_at_call 78;refine HFn.out.mono ?_;rintro e w2 ⟨rfl,hb2⟩;have HB2:=hid hb2;clear hb2)
 by_cases hf:fi < 0
 ·have HY2:Hid (Y=(0,5)):=hid (by rw [HY.out,if_pos hf])
  clear HY
  go_wp2_with fail
  go_ret2
  rw [HY2.out]
  exact ⟨rfl,HB1.out.trans (HB2.out.mono HB1.out.size)⟩
 ·obtain ⟨j,hj⟩:∃ j:Nat,fi=(j:Int):=⟨fi.toNat,by omega⟩
  subst hj
  have hge:=HGe.out.2.1
  have hjl:j < l.length:=by omega
  have HY2:Hid (Y=((l.getD j ([],0)).2,0)):=hid (by rw [HY.out,if_neg hf,Int.toNat_natCast])
  have hm:=HL.out
  have k2:=(HK1.out.below HB2.out HK1.out.lt).cell 1
  obtain ⟨hkl,gb,go,hA3,_,f0,f1⟩:=it_facts (HR.out.below HB2.out) (k:=j) (by omega)
  have hz5:(0:Int)≤(j:Int):=by omega
  have hz6:(j:Int) < (n:Int):=by omega
  subst hA3
  have HE:Hid (l.getD j ([],0)=l[j]):=hid (by rw [List.getD_eq_getElem?_getD,List.getElem?_eq_getElem hkl];rfl)
  clear hf hge hm HY k0 k1
  go_wp2_with fail
  go_ret2
  rw [HY2.out,HE.out]
  exact ⟨rfl,HB1.out.trans (HB2.out.mono HB1.out.size)⟩
theorem refOldest_any (h:Reads w w.heap.size 2 A n (itCells l)) (hn:n≤100000) :
  Calls Tryz.prog 82 #[.agg #[.int .u64 (st:Int), .slice A n c]] w fun e w'=>e = .returned (.int .u64 (minL st l:Int))∧Below w.heap.size w w':=by
 have hl0:l.length=n:=by have:=h.1;rw [itCells_len] at this;omega
 obtain ⟨W1,hW1⟩:∃ W1,w.alloc (.cells #[.int .u64 (st:Int), .slice A n c] 86)=W1:=⟨_,rfl⟩
 have hb1:Below w.heap.size w W1:=by rw [← hW1];exact (Below.refl _ _).alloc (Nat.le_refl _) _
 have hk1:Blk W1 w.heap.size 86 #[.int .u64 (st:Int), .slice A n c]:=by rw [← hW1];exact Blk.new _ _ _
 have HR:=hid ((h.below hb1).more hb1.size)
 have HL:=hid hl0
 have HB1:=hid hb1
 have HW1:=hid hW1
 have HB0:Hid (Below W1.heap.size W1 W1):=hid (Below.refl _ _)
 have k0:=hk1.cell 0
 have k1:=hk1.cell 1
 clear h hl0 hb1 hk1 hW1
 go_enter Tryz.func82,Tryz.ntmps82
 go_upto_region 1 with fail
 rw [HW1.out]
 go_wp2_with fail
 go_loopw [3,11] (fun v i wr=>∃ k:Nat,k≤n∧i = .int .i64 (k:Int)∧v = .int .u64 (minL st (l.take k):Int)∧Hid (Below W1.heap.size W1 wr)) (fun _ i _=>n - (Go.RowKit.intOf i).toNat)
 case atStart=>exact ⟨0,Nat.zero_le _,rfl,rfl,HB0⟩
 case round =>
  clear HB0
  obtain ⟨k,hk,rfl,rfl,HB⟩:=hrel
  by_cases hlt:k < n
  ·obtain ⟨hkl,gb,go,hA3,_,f0,f1⟩:=it_facts ((HR.out.below HB.out).more HB.out.size) (k:=k) hlt
   subst hA3
   have HMin:=hid (minL_take st l k hkl)
   generalize l[k]=p at *
   obtain ⟨pn,pv⟩:=p
   dsimp only at f0 f1 HMin
   have hz5:(0:Int)≤(k:Int):=by omega
   have hz6:(k:Int) < (n:Int):=by omega
   have HBa:Hid (Below W1.heap.size W1 (wr.alloc (.cells #[.string (strN pn), .int .u64 (pv:Int)] 155))):=hid (HB.out.alloc HB.out.size _)
   generalize minL st (l.take k)=mm at *
   clear hkl
   by_cases hmp:mm≤pv
   ·have hmi:(mm:Int)≤(pv:Int):=by omega
    have HM2:Hid (minL st (l.take (k+1))=mm):=hid (by rw [HMin.out,Nat.min_eq_left hmp])
    clear hmp HMin
    go_wp2_with fail
    go_roundw
    case rel =>
     first
      | exact ⟨k+1,by omega,by go_num,by rw [HM2.out];first | rfl | (congr 1;omega),HBa⟩
      | (
        repeat apply Exists.intro
        refine ⟨?_,rfl⟩
        exact ⟨k+1,by omega,by go_num,by rw [HM2.out];first | rfl | (congr 1;omega),HBa⟩)
    case measure=>simp [Go.RowKit.intOf];omega
   ·have hmi:(pv:Int) < (mm:Int):=by omega
    have HM2:Hid (minL st (l.take (k+1))=pv):=hid (by rw [HMin.out,Nat.min_eq_right (by omega)])
    clear hmp HMin
    go_wp2_with fail
    go_roundw
    case rel =>
     first
      | exact ⟨k+1,by omega,by go_num,by rw [HM2.out];first | rfl | (congr 1;omega),HBa⟩
      | (
        repeat apply Exists.intro
        refine ⟨?_,rfl⟩
        exact ⟨k+1,by omega,by go_num,by rw [HM2.out];first | rfl | (congr 1;omega),HBa⟩)
    case measure=>simp [Go.RowKit.intOf];omega
  ·obtain rfl:k=n:=by omega
   have HT:Hid (l.take k=l):=hid (List.take_of_length_le (by rw [HL.out];exact Nat.le_refl _))
   clear hlt hk
   go_wp2_with fail
   go_ret
   rw [HT.out]
   exact ⟨rfl,HB1.out.trans (HB.out.mono HB1.out.size)⟩
end
end
end Go.Proofs.YtnlokpakiambaaaGreatDoor

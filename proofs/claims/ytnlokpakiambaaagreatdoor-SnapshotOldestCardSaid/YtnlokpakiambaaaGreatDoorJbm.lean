/- The walks and laws that the claim leans on, part 39. -/
import Derived.Test.YtnlokpakiambaaaGreatDoorJbl
set_option maxRecDepth 100000
set_option maxHeartbeats 16000000
namespace Go.Proofs.YtnlokpakiambaaaGreatDoor
open Go.Lib (hid)
section
open Go.RowKit Go.Maps
theorem one_ptr {w:World} {g q:Nat} (h:Blk w g 27 #[.int .u64 (q:Int)]):Reads w w.heap.size 1 (some ⟨g,0,none⟩) 1 (uCells [q]):=by
 refine ⟨rfl,fun _=>⟨_,rfl,h.lt,fun j u hu=>?_⟩⟩
 rw [add_plain,Nat.zero_add,h.cell]
 have hj:j < 1:=(List.getElem?_eq_some_iff.1 hu).1
 obtain rfl:j=0:=by omega
 exact hu
theorem sfp_old {a:DA} {L T n K:Nat} {x:HA} {cs:Nat→CS} {f:Nat→Option Nat} {N m b0:Nat} {S:Fp} {cur:Nat→Nat} {w:World} {d r:Nat} (h:SD a L T 53 n K x cs f N m b0 S cur w d r) {i:Nat} (hi:sfp S x i):b0≤i:=by
 obtain ⟨_,_,_,_,l5,l6,l7,l8⟩:=h.ds.lo
 rcases hi with e | e
 ·exact l8 i e
 ·rcases e with e | e | e <;> rw [e] <;> assumption
theorem RgS.below {a:DA} {L T K:Nat} {x:HA} {y:WA} {cs:Nat→CS} {f:Nat→Option Nat} {N m b0:Nat} {S:Fp} {cur:Nat→Nat} {q st:Nat} {l:List (List Nat × Nat)} {w w':World} (h:RgS a L T K x y cs f N m b0 S cur q st l w) (hb:Below w.heap.size w w'):RgS a L T K x y cs f N m b0 S cur q st l w':={ h with bw:=h.bw.below hb }
def RetBg38 (w:World) (e:Ending) (w':World):Prop:=∃ a T x y cs f N m S cur q gr,e = .returned (.tuple #[.pointer (some ⟨y.g,0,none⟩), .pointer (some ⟨gr,0,none⟩)])∧RgS a 149 T 3 x y cs f N m w.heap.size S cur q 0 [] w'∧Blk w' gr 153 #[.int .u64 (q:Int)]∧¬ sfp S x gr∧q < 18446744073709551616∧T≤3000∧N≤10∧Below w.heap.size w w'
section
variable {w:World}
theorem begin38_any (ht:Tab w) (hpy:Pay w):Calls Tryz.prog 33 #[] w (RetBg38 w):=by
 have HBg:=hid (beginB_any 3 (by decide) (by decide) w ht hpy)
 clear ht hpy
 go_enter Tryz.func33,Tryz.ntmps33
 go_wp2_with (go_at_call 51;refine HBg.out.mono ?_;rintro e w1 ⟨a,T,x,y,S,rfl,hbw,hT,hb⟩;have HBw:=hid hbw;have HT:=hid hT;have HB:=hid hb;clear hbw hT hb;refine stop ?_)
 unfold Stop
 have g3:w1.cell? ⟨y.g,3,none⟩=some (.pointer (some ⟨y.d,0,none⟩)):=HBw.out.blk.cell 3
 have HCr:=hid (snCreate_any HBw.out.sd (by decide) (by have:=HT.out;omega) (.inr ⟨0,by decide,rfl⟩))
 go_upto_region 5 with (go_at_call 47;refine HCr.out.mono ?_;rintro e w2 ⟨k,i,S2,cs2,cur2,g2,rfl,hro,hsd,hk,hns,hch,hgr⟩;refine stop ?_)
 unfold Stop
 have hro4:ResOk 53 3 (fun _=>csN) (fun _=>none) (curB 3) 4 cs2 cur2 k i:=hro
 obtain ⟨hrq,hat⟩:=Rq.new hsd.ds (kind:=8) ⟨by decide,by decide⟩ hro4 rfl
 have hfw:=fresh_words hro4 hat
 have hu2:cur2 (8 * 26)=0:=((Fr.alloc (v:=fptr 53 cs2 8 k i) HBw.out.sd.ds (by decide) hro4).head _ (by omega)).trans HBw.out.uid
 have hbw2:=HBw.out.keep hsd hch hgr hu2
 obtain ⟨q,hq⟩:∃ q,fptr 53 cs2 8 k i=q:=⟨_,rfl⟩
 rw [hq] at hrq hat hfw hk hbw2 hsd ⊢
 have hq64:=hrq.keep.nz.2
 have HSt:=hid (set_any hsd (by decide) y.g 0 q (by decide) hq64 (some ⟨g2,0,none⟩) 1 1 [q] (one_ptr hk) (fun ad h=>by injection h with h;subst h;exact hns) (fun p hp=>by
  rw [List.mem_singleton.1 hp]
  exact hrq.keep) (by simp) (by simp) (by have:=HT.out;omega) (by decide))
 have HSt2:Hid (Calls Tryz.prog 76 #[.pointer (some ⟨y.g,0,none⟩), .iface 43 (.pointer (some ⟨y.d,0,none⟩)), .int .i64 0, .int .u64 (q:Int), .slice (some ⟨g2,0,none⟩) 1 1] w2 fun e w3=>e = .returned (.int .i64 0)∧∃ cs3 f3 S3 cur3,RgS a 149 (T+400+800) 3 x y cs3 f3 (0+1+1) (0+1 - 1) w.heap.size S3 cur3 q 0 [] w3∧Chg (sfp S2 x) w2 w3∧Grew S2 S3 w2):=hid (HSt.out.mono (fun e w' h=>RgS.set hbw2 hrq hfw (by have:=HT.out;omega) h))
 have HBc:=hid (HB.out)
 have HBw2:=hid hbw2
 have HQ64:=hid hq64
 have HChg:=hid hch
 have HGrw:=hid hgr
 have f3:w2.cell? ⟨y.g,3,none⟩=some (.pointer (some ⟨y.d,0,none⟩)):=hbw2.blk.cell 3
 have fk:w2.cell? ⟨g2,0,none⟩=some (.int .u64 (q:Int)):=hk.cell 0
 have HKd:Hid (∀ W,Calls Tryz.prog 29 #[.int .u64 (q:Int)] W fun e w'=>e = .returned (.int .u8 8)∧W=w'):=hid (fun W=>by
  have h1:=kind_any q W
  rw [hrq.kind_] at h1
  exact h1)
 have d3:((q:Int) != (q:Int))=false:=by rw [bne,beq_self_eq_true];rfl
 clear hro hro4 hrq hat hfw hu2 hbw2 hq hq64 hsd hk hns hch hgr HSt HCr g3 HBg
 go_upto_region 7 with (first
  | (go_at_call 29;refine (HKd.out _).mono ?_;rintro e w9 ⟨rfl,rfl⟩)
  | (go_at_call 76;refine HSt2.out.mono ?_;rintro e w3 ⟨rfl,cs3,f3',S3,cur3,hrg,hch3,hgr3⟩;have HRg:=hid hrg;have HCh3:=hid hch3;have HGr3:=hid hgr3;clear hrg hch3 hgr3))
 have g33:w3.cell? ⟨y.g,3,none⟩=some (.pointer (some ⟨y.d,0,none⟩)):=HRg.out.bw.blk.cell 3
 have HOp:=hid (snOpen_any HRg.out.bw.sd q HQ64.out)
 have hck:chkR 53 3 cs3 q 8=0:=by
  obtain ⟨k',i',h1,_⟩:=HRg.out.live
  exact (Live.chk ⟨k',i',h1⟩).1
 rw [hck] at HOp
 have HOp2:Hid (Calls Tryz.prog 46 #[.iface 43 (.pointer (some ⟨y.d,0,none⟩)), .int .u64 (q:Int)] w3 fun e w'=>(∃ gr:Nat,w3.heap.size≤gr∧e = .returned (.tuple #[.pointer (some ⟨gr,0,none⟩), .int .i64 0])∧Blk w' gr 153 #[.int .u64 (q:Int)])∧Below w3.heap.size w3 w'):=HOp
 clear f3 fk HOp hck d3
 go_wp2_with (go_at_call 46;refine HOp2.out.mono ?_;rintro e w4 ⟨⟨gr,hgr,rfl,hkr⟩,hb4⟩;have HGr:=hid hgr;have HKr:=hid hkr;have HB4:=hid hb4;clear hgr hkr hb4)
 go_ret2
 have hsd2:=HBw2.out.sd
 have hb13:Below w.heap.size w w3:=by
  have h1:=HChg.out.trans HCh3.out (fun j hj=>by
   rcases hj with hj | hj
   ·rcases HGrw.out j hj with h | h
    ·exact .inl (.inl h)
    ·exact .inr h
   ·exact .inl (.inr hj))
  exact HBc.out.trans (h1.toBelow HBc.out.size (fun j hj=>sfp_old HBw.out.sd hj))
 have hsz3:=hb13.size
 refine ⟨a,T+400+800,x,y,cs3,f3',0+1+1,0+1 - 1,S3,cur3,q,gr,rfl,HRg.out.below HB4.out,HKr.out,fun hz=>?_,HQ64.out,by have:=HT.out;omega,by decide,hb13.trans (HB4.out.mono hsz3)⟩
 have h1:=sfp_lt HRg.out.bw.sd hz
 have h2:=HGr.out
 omega
end
end
section
open Go.RowKit Go.Maps
section
variable {a:DA} {L T K:Nat} {x:HA} {y:WA} {cs:Nat→CS} {f:Nat→Option Nat} {N m b0:Nat} {S:Fp} {cur:Nat→Nat} {q st:Nat} {l:List (List Nat × Nat)} {w w':World}
theorem RgS.pay (h:RgS a L T K x y cs f N m b0 S cur q st l w) (hL:64 * L≤900000):PayOk L 53 K cs q:=by
 obtain ⟨k,i,h1,h2⟩:=h.live
 exact payOk_of h.bw.sd.ds h1 h2 hL
theorem RgS.chk (h:RgS a L T K x y cs f N m b0 S cur q st l w):chkR 53 K cs q 8=0:=by
 obtain ⟨k,i,h1,_⟩:=h.live
 exact (Live.chk ⟨k,i,h1⟩).1
theorem RgS.lo (h:RgS a L T K x y cs f N m b0 S cur q st l w):3400≤pOff q∧q < 18446744073709551616:=by
 obtain ⟨k,i,h1,_⟩:=h.live
 have:=h1.at_.lo
 exact ⟨by omega,h1.lt⟩
theorem RgS.rgR (h:RgS a L T K x y cs f N m b0 S cur q st l w):rgR cur (fun p=>chkR 53 K cs p 8) q=(some (st,l),0):=by
 have hl33:=encA_len h.ok.len (fun p hp=>(h.ok.by_ p hp).1)
 have hw:rgW cur (pOff q / 8+1)=encA l:=by
  unfold rgW
  apply List.ext_getElem
  ·rw [List.length_map,List.length_range,hl33]
  ·intro j h1 h2
   rw [List.getElem_map,List.getElem_range]
   have h3:=h.words (j+1) (by rw [List.length_cons];omega)
   rw [show pOff q / 8+1+j=pOff q / 8+(j+1) by omega,h3,List.getD_eq_getElem?_getD,List.getElem?_cons_succ,List.getElem?_eq_getElem h2]
   rfl
 have h0:cur (pOff q / 8)=st:=h.words 0 (by rw [List.length_cons];omega)
 show (if chkR 53 K cs q 8≠0 then (none,12) else match decA (rgW cur (pOff q / 8+1)) with
  | none=>(none,11)
  | some l=>if sndP (cur (pOff q / 8)) l=true then (some (cur (pOff q / 8),l),0) else (none,11))=_
 rw [if_neg (fun hn=>hn h.chk),hw,decA_enc h.ok.len h.ok.by_,h0]
 show (if sndP st l=true then (some (st,l),0) else (none,11))=_
 rw [if_pos h.ok.snd]
theorem RgS.rd (h:RgS a L T K x y cs f N m b0 S cur q st l w) (hL:64 * L≤900000) {g:Nat} (hg:Blk w g 153 #[.int .u64 (q:Int)]):RdC (.pointer (some ⟨g,0,none⟩)) (.iface 43 (.pointer (some ⟨y.d,0,none⟩))) w (some (st,l),0):=by
 have hp:=h.pay hL
 have h1:=rgRead_any h.bw.sd g q hg h.lo.2 (fun _=>⟨hp.ne,hp.al,hp.inl⟩)
 rw [h.rgR] at h1
 exact h1
theorem RgS.rgOk (h:RgS a L T K x y cs f N m b0 S cur q st l w):RgOk (some (st,l),0):=by
 have h1:=Go.Proofs.YtnlokpakiambaaaGreatDoor.rgOk cur (fun p=>chkR 53 K cs p 8) q
 rw [h.rgR] at h1
 exact h1
theorem RgS.list (h:RgS a L T K x y cs f N m b0 S cur q st l w) (hL:64 * L≤900000) {l':List (List Nat × Nat)} (hok:LOk st l') {e:Ending} (hp:RetPw a L T 53 (32 * K) K x cs f N m b0 S cur w y.d y.r (flW cur (plOf (pOff q+8) (encA l'))) e w') :
  e = .returned (.int .i64 0)∧∃ S' cur',RgS a L (T+800) K x y cs f N m b0 S' cur' q st l' w'∧Chg (sfp S x) w w'∧Grew S S' w:=by
 obtain ⟨cm,S',he,hcm,hsd,hch,hgr⟩:=hp
 have hP:=h.pay hL
 have hlo:=h.lo.1
 have hal:=hP.al
 have hv:∀ v∈encA l',v < 18446744073709551616:=encA_val hok.len (fun p hp=>⟨(hok.by_ p hp).1,(hok.by_ p hp).2,by have h1:=(hok.nm p hp).2;have h2:=hok.top;omega⟩)
 have hu:=hP.uok _ hv
 have h8:(pOff q+8) % 8=0:=by omega
 have hl33:=encA_len hok.len (fun p hp=>(hok.by_ p hp).1)
 have hfar:=fun i hi ho=>plOf_far (cm:=cm) (cur:=cur) (xs:=encA l') h8 (i:=i) hi ho
 refine ⟨he,S',_,⟨h.bw.keep hsd hch hgr ?_,h.live,fun j hj=>?_,hok,?_⟩,hch,hgr⟩
 ·rw [hfar (8 * 26) (by omega) (.inl (by omega))]
  exact h.bw.uid
 ·rw [List.length_cons,hl33] at hj
  rcases j with _ | j
  ·rw [Nat.add_zero,hfar _ (by omega) (.inl (by omega))]
   exact h.words 0 (by rw [List.length_cons];omega)
  ·have h1:=plOf_cur (cm:=cm) (cur:=cur) hu h8 (j:=j) (by omega)
   rw [show pOff q / 8+(j+1)=(pOff q+8) / 8+j by omega,h1,List.getD_cons_succ]
 ·rw [hfar 416 (by omega) (.inl (by omega))]
  exact h.link
theorem RgS.next (h:RgS a L T K x y cs f N m b0 S cur q st l w) (hs:st < 4611686018427387903) {e:Ending} (hp:RetPw a L T 53 (32 * K) K x cs f N m b0 S cur w y.d y.r [(pOff q,st+1)] e w') (hal:pOff q % 8=0) (hin:pOff q < 64 * L) :
  e = .returned (.int .i64 0)∧∃ S' cur',RgS a L (T+800) K x y cs f N m b0 S' cur' q (st+1) l w'∧Chg (sfp S x) w w'∧Grew S S' w:=by
 obtain ⟨cm,S',he,hcm,hsd,hch,hgr⟩:=hp
 have hlo:=h.lo.1
 have hfar:∀ i,208≤i→i≠pOff q / 8→rdG 0 cur [(pOff q,st+1)] cm i=cur i:=fun i hi ho=>rdG_rest (by simp) (.inr (by omega)) (fun e he heq=>by
  have e1:=List.mem_singleton.1 he
  subst e1
  exact ho heq.symm)
 have hget:rdG 0 cur [(pOff q,st+1)] cm (pOff q / 8)=st+1:=rdG_get (L:=L) (e:=(pOff q,st+1)) (fun e he=>by
  have e1:=List.mem_singleton.1 he
  subst e1
  exact ⟨hal,hin, .inr (by show 64 * 0+64 * 26≤pOff q;omega)⟩) (by simp) (List.mem_singleton.2 rfl)
 refine ⟨he,S',_,⟨h.bw.keep hsd hch hgr ?_,h.live,fun j hj=>?_,h.ok.next hs,?_⟩,hch,hgr⟩
 ·rw [hfar (8 * 26) (by omega) (by omega)]
  exact h.bw.uid
 ·rcases j with _ | j
  ·exact hget
  ·have h1:=h.words (j+1) (by rw [List.length_cons] at hj ⊢;exact hj)
   rw [hfar _ (by omega) (by omega),h1]
   rfl
 ·rw [hfar 416 (by omega) (by omega)]
  exact h.link
end
end
section
open Go.RowKit Go.Maps
def tkL (nm:ByteArray) (st:Nat) (l:List (List Nat × Nat)):List (List Nat × Nat):=if (tkR nm (some (st,l),0)).1.2=0 then (tkR nm (some (st,l),0)).2 else l
def dpL (nm:ByteArray) (st:Nat) (l:List (List Nat × Nat)):List (List Nat × Nat):=if (drpR nm (some (st,l),0)).1=0 then (drpR nm (some (st,l),0)).2 else l
theorem tkR_ok {nm:ByteArray} {st:Nat} {l:List (List Nat × Nat)} (h:(tkR nm (some (st,l),0)).1.2=0):nmOk nm=true∧fndS nm 0 l < 0∧l.length≠8∧tkR nm (some (st,l),0)=((st,0),l++[(bytesN nm,st)]):=by
 cases hn:nmOk nm with
 | false =>
  unfold tkR at h
  rw [if_pos hn] at h
  exact absurd h (by decide)
 | true =>
  have e:tkR nm (some (st,l),0)=if 0≤fndS nm 0 l then ((0,6),[]) else if l.length=8 then ((0,4),[]) else ((st,0),l++[(bytesN nm,st)]):=by
   unfold tkR
   rw [if_neg (by rw [hn];decide)]
  rw [e] at h ⊢
  by_cases hf:0≤fndS nm 0 l
  ·rw [if_pos hf] at h
   exact absurd h (by decide)
  ·rw [if_neg hf] at h ⊢
   by_cases h8:l.length=8
   ·rw [if_pos h8] at h
    exact absurd h (by decide)
   ·exact ⟨rfl,by omega,h8,if_neg h8⟩
theorem drpR_ok {nm:ByteArray} {st:Nat} {l:List (List Nat × Nat)} (h:(drpR nm (some (st,l),0)).1=0):¬ fndS nm 0 l < 0∧drpR nm (some (st,l),0)=(0,dropL nm l):=by
 have e:drpR nm (some (st,l),0)=if fndS nm 0 l < 0 then (5,[]) else (0,dropL nm l):=rfl
 rw [e] at h ⊢
 by_cases hf:fndS nm 0 l < 0
 ·rw [if_pos hf] at h
  exact absurd h (by decide)
 ·exact ⟨hf,if_neg hf⟩
section
variable {a:DA} {L T K:Nat} {x:HA} {y:WA} {cs:Nat→CS} {f:Nat→Option Nat} {N m b0:Nat} {S:Fp} {cur:Nat→Nat} {q st:Nat} {l:List (List Nat × Nat)} {w w':World}
def RgTo (a:DA) (L T K:Nat) (x:HA) (y:WA) (cs:Nat→CS) (f:Nat→Option Nat) (N m b0:Nat) (S:Fp) (w:World) (q st:Nat) (l:List (List Nat × Nat)) (w':World):Prop:=∃ S' cur',RgS a L (T+800) K x y cs f N m b0 S' cur' q st l w'∧Chg (sfp S x) w w'∧Grew S S' w
theorem RgS.stay (h:RgS a L T K x y cs f N m b0 S cur q st l w) (hT:T+800≤1000000000) (hb:Below w.heap.size w w'):RgTo a L T K x y cs f N m b0 S w q st l w' :=
 ⟨S,cur,{ h with bw:=(h.bw.below hb).more (by omega) hT (Nat.le_refl _) },Chg.of_below hb,Grew.refl _ _⟩
theorem RgS.take_ (h:RgS a L T K x y cs f N m b0 S cur q st l w) (hL:64 * L≤900000) {g:Nat} (hg:Blk w g 153 #[.int .u64 (q:Int)]) (nm:ByteArray) (hs:nm.size≤9223372036854775807) (hT:T+800≤1000000000) (hN:N≤1000000000) :
  Calls Tryz.prog 36 #[.pointer (some ⟨g,0,none⟩), .iface 43 (.pointer (some ⟨y.d,0,none⟩)), .string nm] w fun e w'=>e = .returned (.tuple #[.int .u64 ((tkR nm (some (st,l),0)).1.1:Int), .int .i64 ((tkR nm (some (st,l),0)).1.2:Int)])∧RgTo a L T K x y cs f N m b0 S w q st (tkL nm st l) w':=by
 have hrd:=h.rd hL hg
 by_cases he:(tkR nm (some (st,l),0)).1.2=0
 ·obtain ⟨h1,h2,h3,h4⟩:=tkR_ok he
  have h5:tkL nm st l=l++[(bytesN nm,st)]:=by
   unfold tkL
   rw [if_pos he,h4]
  rw [h4,h5]
  refine (take_ok h.bw.sd h.bw.few g q hg (h.pay hL) st l hrd h.rgOk nm h1 h2 h3 hT hN).mono ?_
  rintro e w' ⟨cm,S',rfl,q1,q2,q3,q4⟩
  obtain ⟨_,S2,cur2,g1,g2,g3⟩:=h.list hL (h.ok.take h1 h2 h3) (e := .returned (.int .i64 0)) ⟨cm,S',rfl,q1,q2,q3,q4⟩
  exact ⟨rfl,S2,cur2,g1,g2,g3⟩
 ·have h5:tkL nm st l=l:=by
   unfold tkL
   rw [if_neg he]
  have h6:(tkR nm (some (st,l),0)).1.1=0:=by
   unfold tkR at he ⊢
   split
   ·rfl
   ·rename_i hn
    rw [if_neg hn] at he
    show ((if 0≤fndS nm 0 l then ((0,6),[]) else if l.length=8 then ((0,4),[]) else ((st,0),l++[(bytesN nm,st)])):(Nat × Nat) × List (List Nat × Nat)).1.1=0
    have he':((if 0≤fndS nm 0 l then ((0,6),[]) else if l.length=8 then ((0,4),[]) else ((st,0),l++[(bytesN nm,st)])):(Nat × Nat) × List (List Nat × Nat)).1.2≠0:=he
    split
    ·rfl
    ·rename_i hf
     rw [if_neg hf] at he'
     split
     ·rfl
     ·rename_i h8
      rw [if_neg h8] at he'
      exact absurd rfl he'
  rw [h5,h6]
  exact (take_err hrd h.rgOk nm hs he).mono (fun e w' h2=>⟨h2.1,h.stay hT h2.2⟩)
theorem RgS.drop_ (h:RgS a L T K x y cs f N m b0 S cur q st l w) (hL:64 * L≤900000) {g:Nat} (hg:Blk w g 153 #[.int .u64 (q:Int)]) (nm:ByteArray) (hT:T+800≤1000000000) (hN:N≤1000000000) :
  Calls Tryz.prog 40 #[.pointer (some ⟨g,0,none⟩), .iface 43 (.pointer (some ⟨y.d,0,none⟩)), .string nm] w fun e w'=>e = .returned (.int .i64 ((drpR nm (some (st,l),0)).1:Int))∧RgTo a L T K x y cs f N m b0 S w q st (dpL nm st l) w':=by
 have hrd:=h.rd hL hg
 by_cases he:(drpR nm (some (st,l),0)).1=0
 ·obtain ⟨h1,h4⟩:=drpR_ok he
  have h5:dpL nm st l=dropL nm l:=by
   unfold dpL
   rw [if_pos he,h4]
  rw [h4,h5]
  refine (drop_ok h.bw.sd h.bw.few g q hg (h.pay hL) st l hrd h.rgOk nm h1 hT hN).mono ?_
  intro e w' hp
  obtain ⟨g0,S2,cur2,g1,g2,g3⟩:=h.list hL (h.ok.drop h1) hp
  exact ⟨g0,S2,cur2,g1,g2,g3⟩
 ·have h5:dpL nm st l=l:=by
   unfold dpL
   rw [if_neg he]
  rw [h5]
  exact (drop_err hrd h.rgOk nm he).mono (fun e w' h2=>⟨h2.1,h.stay hT h2.2⟩)
end
end
section
open Go.RowKit Go.Maps
section
variable {a:DA} {L T n K:Nat} {x:HA} {y:WA} {cs:Nat→CS} {f:Nat→Option Nat} {N m b0:Nat} {S:Fp} {cur:Nat→Nat} {q st:Nat} {l:List (List Nat × Nat)} {w w':World}
theorem RgS.next_ (h:RgS a L T K x y cs f N m b0 S cur q st l w) (hL:64 * L≤900000) {g:Nat} (hg:Blk w g 153 #[.int .u64 (q:Int)]) :
  Calls Tryz.prog 34 #[.pointer (some ⟨g,0,none⟩), .iface 43 (.pointer (some ⟨y.d,0,none⟩))] w (RetNx w (if st=4611686018427387903 then (0,[]) else (st+1,[(pOff q,st+1)]))) :=
 next_some g q (h.rd hL hg) h.rgOk hg (by intro hn;cases hn) (h.pay hL).ne
theorem stamp_uok (hd:DS a L T 53 n K x cs f N m b0 S cur w) {k i v:Nat} (h:LiveA 53 K cs q 8 k i) (hc:(cs k).cl=4) (hv:v < 18446744073709551616):UOk L 0 53 K cs [(pOff q,v)]:=by
 have hin:=(h.at_.inL hd).1
 have hl:=h.at_.lines
 have hlo:=h.at_.lo
 rw [hc] at hin
 have e60:payW 4=60:=rfl
 rw [e60] at hin
 refine ⟨fun e he=>?_,fun e he=>?_,fun e he k' hk' hlk=>?_,by simp⟩
 ·have e1:=List.mem_singleton.1 he
  subst e1
  exact ⟨hl.2,by show pOff q < 64 * L;omega, .inr (by show 64 * 0+64 * 26≤pOff q;omega)⟩
 ·have e1:=List.mem_singleton.1 he
  subst e1
  exact hv
 ·have e1:=List.mem_singleton.1 he
  subst e1
  have h4:=h.at_.notLook (y:=0) (by rw [hc,e60];omega) hk'
  have hlk':lookAt 53 cs k' (pOff q / 8):=hlk
  rw [hl.1] at hlk'
  exact h4 hlk'
theorem RgS.pubNext (h:RgS a L T K x y cs f N m b0 S cur q st l w) (hL:64 * L≤900000) (hs:st < 4611686018427387903) {g:Nat} (hg:Blk w g 90 #[.int .u64 (pOff q:Int), .int .u64 ((st+1:Nat):Int)]) (hT:T+800≤1000000000) (hN:N≤1000000000) :
  Calls Tryz.prog 39 #[.pointer (some ⟨y.d,0,none⟩), .slice (some ⟨g,0,none⟩) 1 1, .slice none 0 0, .slice none 0 0] w fun e w'=>e = .returned (.int .i64 0)∧RgTo a L T K x y cs f N m b0 S w q (st+1) l w':=by
 have hP:=h.pay hL
 have hinl:=hP.inl
 obtain ⟨k,i,hlv,hc⟩:=h.live
 have hr:Reads w w.heap.size 2 (some ⟨g,0,none⟩) 1 (wrCells [(pOff q,st+1)]):=by
  refine ⟨rfl,fun _=>⟨_,rfl,hg.lt,fun j u hu=>?_⟩⟩
  rw [add_plain,Nat.zero_add,hg.cell]
  have e:wrCells [(pOff q,st+1)]=[.int .u64 (pOff q:Int), .int .u64 ((st+1:Nat):Int)]:=rfl
  rw [e] at hu
  rw [List.getElem?_toArray]
  exact hu
 have h1:=publishD h.bw.sd h.bw.few (some ⟨g,0,none⟩) none none 1 1 0 0 0 0 [(pOff q,st+1)] [] [] hr (fun h=>by cases h) ⟨rfl,fun h=>absurd h (Nat.lt_irrefl 0)⟩ ⟨rfl,fun h=>absurd h (Nat.lt_irrefl 0)⟩ (fun ad h=>by cases h) (fun p hp=>absurd hp (by simp)) (fun p hp=>absurd hp (by simp)) (by simp) (stamp_uok h.bw.sd.ds hlv hc (by omega)) (by simp) hT (by omega)
 refine h1.mono (fun e w' hp=>?_)
 obtain ⟨g0,S2,cur2,g1,g2,g3⟩:=h.next hs hp.words hP.al (by omega)
 exact ⟨g0,S2,cur2,g1,g2,g3⟩
end
end
section
open Go.RowKit Go.Maps
def RgW (B:Nat) (a:DA) (x:HA) (y:WA) (q gr T N st:Nat) (l:List (List Nat × Nat)) (w:World):Prop:=∃ cs f m S cur,RgS a 149 T 3 x y cs f N m B S cur q st l w∧Blk w gr 153 #[.int .u64 (q:Int)]∧¬ sfp S x gr∧B≤w.heap.size
section
variable {B:Nat} {a:DA} {x:HA} {y:WA} {q gr T N st:Nat} {l:List (List Nat × Nat)} {w w':World}
theorem RgW.below (h:RgW B a x y q gr T N st l w) (hb:Below w.heap.size w w'):RgW B a x y q gr T N st l w':=by
 obtain ⟨cs,f,m,S,cur,h1,h2,h3,h4⟩:=h
 exact ⟨cs,f,m,S,cur,h1.below hb,h2.below hb h2.lt,h3,Nat.le_trans h4 hb.size⟩
theorem RgTo.rgW {cs:Nat→CS} {f:Nat→Option Nat} {m:Nat} {S:Fp} {cur:Nat→Nat} {st':Nat} {l':List (List Nat × Nat)} (h1:RgS a 149 T 3 x y cs f N m B S cur q st l w) (h2:Blk w gr 153 #[.int .u64 (q:Int)]) (h3:¬ sfp S x gr) (h4:B≤w.heap.size) (h:RgTo a 149 T 3 x y cs f N m B S w q st' l' w'):RgW B a x y q gr (T+800) N st' l' w'∧Below B w w':=by
 obtain ⟨S',cur',g1,g2,g3⟩:=h
 have hb:Below B w w':=g2.toBelow h4 (fun i hi=>sfp_old h1.bw.sd hi)
 refine ⟨⟨cs,f,m,S',cur',g1,g2.blk h2 h3,fun hz=>?_,Nat.le_trans h4 hb.size⟩,hb⟩
 rcases hz with hz | hz
 ·rcases g3 _ hz with e | e
  ·exact h3 (.inl e)
  ·exact absurd h2.lt (Nat.not_lt.2 e)
 ·exact h3 (.inr hz)
theorem RgW.g3 (h:RgW B a x y q gr T N st l w):w.cell? ⟨y.g,3,none⟩=some (.pointer (some ⟨y.d,0,none⟩)):=by
 obtain ⟨cs,f,m,S,cur,h1,_⟩:=h
 exact h1.bw.blk.cell 3
theorem RgW.ok (h:RgW B a x y q gr T N st l w):LOk st l:=by
 obtain ⟨cs,f,m,S,cur,h1,_⟩:=h
 exact h1.ok
theorem RgW.rd (h:RgW B a x y q gr T N st l w):RdC (.pointer (some ⟨gr,0,none⟩)) (.iface 43 (.pointer (some ⟨y.d,0,none⟩))) w (some (st,l),0)∧RgOk (some (st,l),0):=by
 obtain ⟨cs,f,m,S,cur,h1,h2,_⟩:=h
 exact ⟨h1.rd (by decide) h2,h1.rgOk⟩
theorem RgW.take_ (h:RgW B a x y q gr T N st l w) (nm:ByteArray) (hs:nm.size≤9223372036854775807) (hT:T+800≤1000000000) (hN:N≤1000000000) :
  Calls Tryz.prog 36 #[.pointer (some ⟨gr,0,none⟩), .iface 43 (.pointer (some ⟨y.d,0,none⟩)), .string nm] w fun e w'=>e = .returned (.tuple #[.int .u64 ((tkR nm (some (st,l),0)).1.1:Int), .int .i64 ((tkR nm (some (st,l),0)).1.2:Int)])∧RgW B a x y q gr (T+800) N st (tkL nm st l) w'∧Below B w w':=by
 obtain ⟨cs,f,m,S,cur,h1,h2,h3,h4⟩:=h
 exact (h1.take_ (by decide) h2 nm hs hT hN).mono (fun e w' g=>⟨g.1,RgTo.rgW h1 h2 h3 h4 g.2⟩)
theorem RgW.next_ (h:RgW B a x y q gr T N st l w) :
  Calls Tryz.prog 34 #[.pointer (some ⟨gr,0,none⟩), .iface 43 (.pointer (some ⟨y.d,0,none⟩))] w (RetNx w (if st=4611686018427387903 then (0,[]) else (st+1,[(pOff q,st+1)]))):=by
 obtain ⟨cs,f,m,S,cur,h1,h2,h3,h4⟩:=h
 exact h1.next_ (by decide) h2
theorem RgW.pubNext (h:RgW B a x y q gr T N st l w) (hs:st < 4611686018427387903) {g:Nat} (hg:Blk w g 90 #[.int .u64 (pOff q:Int), .int .u64 ((st+1:Nat):Int)]) (hT:T+800≤1000000000) (hN:N≤1000000000) :
  Calls Tryz.prog 39 #[.pointer (some ⟨y.d,0,none⟩), .slice (some ⟨g,0,none⟩) 1 1, .slice none 0 0, .slice none 0 0] w fun e w'=>e = .returned (.int .i64 0)∧RgW B a x y q gr (T+800) N (st+1) l w'∧Below B w w':=by
 obtain ⟨cs,f,m,S,cur,h1,h2,h3,h4⟩:=h
 exact (h1.pubNext (by decide) hs hg hT hN).mono (fun e w' g=>⟨g.1,RgTo.rgW h1 h2 h3 h4 g.2⟩)
theorem RgW.stamp (h:RgW B a x y q gr T N st l w):Calls Tryz.prog 38 #[.pointer (some ⟨gr,0,none⟩), .iface 43 (.pointer (some ⟨y.d,0,none⟩))] w fun e w'=>e = .returned (.int .u64 (st:Int))∧Below w.heap.size w w':=stamp_any h.rd.1
theorem RgW.oldest (h:RgW B a x y q gr T N st l w):Calls Tryz.prog 41 #[.pointer (some ⟨gr,0,none⟩), .iface 43 (.pointer (some ⟨y.d,0,none⟩))] w fun e w'=>e = .returned (.int .u64 (minL st l:Int))∧Below w.heap.size w w':=oldest_any h.rd.1 h.rd.2
theorem RgW.list (h:RgW B a x y q gr T N st l w):Calls Tryz.prog 42 #[.pointer (some ⟨gr,0,none⟩), .iface 43 (.pointer (some ⟨y.d,0,none⟩))] w (RetLi w l):=list_some (fun {_ _ _ _ _ _} h hm=>nmSort_any h hm) h.rd.1 h.rd.2 st l rfl
theorem RgW.get (h:RgW B a x y q gr T N st l w) (nm:ByteArray):Calls Tryz.prog 45 #[.pointer (some ⟨gr,0,none⟩), .iface 43 (.pointer (some ⟨y.d,0,none⟩)), .string nm] w fun e w'=>e = .returned (.tuple #[.int .u64 ((getR nm (some (st,l),0)).1:Int), .int .i64 ((getR nm (some (st,l),0)).2:Int)])∧Below w.heap.size w w':=get_any h.rd.1 h.rd.2 nm
theorem begin38_w (ht:Tab w) (hpy:Pay w):Calls Tryz.prog 33 #[] w fun e w'=>∃ a x y q gr,e = .returned (.tuple #[.pointer (some ⟨y.g,0,none⟩), .pointer (some ⟨gr,0,none⟩)])∧RgW w.heap.size a x y q gr 3000 10 0 [] w'∧Below w.heap.size w w':=by
 refine (begin38_any ht hpy).mono (fun e w' h=>?_)
 obtain ⟨a,T,x,y,cs,f,N,m,S,cur,q,gr,he,h1,h2,h3,h4,h5,h6,h7⟩:=h
 exact ⟨a,x,y,q,gr,he,⟨cs,f,m,S,cur,{ h1 with bw:=h1.bw.more h5 (by decide) h6 },h2,h3,h7.size⟩,h7⟩
end
end
section
open Go.RowKit Go.Maps
theorem tk_a:(tkR ⟨#[97]⟩ (some (1,[]),0)).1=(1,0)∧tkL ⟨#[97]⟩ 1 []=[([97],1)]:=by
 have e:tkR ⟨#[97]⟩ (some (1,[]),0)=((1,0),[([97],1)]):=by kernel_rfl
 refine ⟨by rw [e],?_⟩
 unfold tkL
 rw [e]
 rfl
section
variable {w:World}
theorem awake38_any (ht:Tab w) (hpy:Pay w):Calls Tryz.prog 32 #[] w fun e w'=>e = .returned (.bool true)∧Below w.heap.size w w':=by
 have HBg:=hid (begin38_w ht hpy)
 clear ht hpy
 go_enter Tryz.func32,Tryz.ntmps32
 go_wp2_with (go_at_call 33;refine HBg.out.mono ?_;rintro e w1 ⟨a,x,y,q,gr,rfl,hw,hb⟩;have HW:=hid hw;have HB:=hid hb;clear hw hb;refine stop ?_)
 unfold Stop
 have g3:=HW.out.g3
 have HNx:Hid (Calls Tryz.prog 34 #[.pointer (some ⟨gr,0,none⟩), .iface 43 (.pointer (some ⟨y.d,0,none⟩))] w1 fun e w'=>(∃ g:Nat,w1.heap.size≤g∧e = .returned (.tuple #[.int .u64 1, .slice (some ⟨g,0,none⟩) 1 1])∧Blk w' g 90 #[.int .u64 (pOff q:Int), .int .u64 1])∧Below w1.heap.size w1 w'):=hid HW.out.next_
 go_upto_region 5 with (go_at_call 34;refine HNx.out.mono ?_;rintro e w2 ⟨⟨gn,hgn,rfl,hkn⟩,hb2⟩;refine stop ?_)
 unfold Stop
 have HW2:=hid (HW.out.below hb2)
 have HB2:=hid (HB.out.trans (hb2.mono HB.out.size))
 have HSt:=hid HW2.out.stamp
 have HKn:=hid hkn
 clear hgn hb2 hkn g3 HNx HBg
 have g3:=HW2.out.g3
 go_upto_region 5 with fail
 have HPu:Hid (∀ W,Below w2.heap.size w2 W→Calls Tryz.prog 39 #[.pointer (some ⟨y.d,0,none⟩), .slice (some ⟨gn,0,none⟩) 1 1, .slice none 0 0, .slice none 0 0] W fun e w'=>e = .returned (.int .i64 0)∧RgW w.heap.size a x y q gr 3800 10 1 [] w'∧Below w.heap.size W w'):=hid (fun W hW=>(HW2.out.below hW).pubNext (by decide) (HKn.out.below hW HKn.out.lt) (by decide) (by decide))
 have HG3:Hid (∀ W,Below w2.heap.size w2 W→W.cell? ⟨y.g,3,none⟩=some (.pointer (some ⟨y.d,0,none⟩))∧W.cell? ⟨gn,1,none⟩=some (.int .u64 1)):=hid (fun W hW=>⟨(HW2.out.below hW).g3,(HKn.out.below hW HKn.out.lt).cell 1⟩)
 go_upto_region 7 with (first
  | (go_at_call 38;refine HSt.out.mono ?_;rintro e w3 ⟨rfl,hb3⟩;have HB3:=hid hb3;obtain ⟨g4,n4⟩:=HG3.out w3 hb3;clear hb3)
  | (go_at_call 39;refine (HPu.out w3 HB3.out).mono ?_;rintro e w4 ⟨rfl,hw4,hb4⟩;have HW4:=hid hw4;have HB4:=hid ((HB2.out.trans (HB3.out.mono HB2.out.size)).trans hb4);clear hw4 hb4))
 clear g3 g4 n4 HSt HPu HG3
 have g3:=HW4.out.g3
 have HTk:Hid (Calls Tryz.prog 36 #[.pointer (some ⟨gr,0,none⟩), .iface 43 (.pointer (some ⟨y.d,0,none⟩)), .string ⟨#[97]⟩] w4 fun e w'=>e = .returned (.tuple #[.int .u64 1, .int .i64 0])∧RgW w.heap.size a x y q gr 4600 10 1 [([97],1)] w'∧Below w.heap.size w4 w'):=hid (by
  have h1:=HW4.out.take_ ⟨#[97]⟩ (by decide) (by decide) (by decide)
  rw [tk_a.1,tk_a.2] at h1
  exact h1)
 go_upto_region 8 with (go_at_call 36;refine HTk.out.mono ?_;rintro e w5 ⟨rfl,hw5,hb5⟩;have HW5:=hid hw5;have HB5:=hid (HB4.out.trans hb5);clear hw5 hb5)
 clear g3 HTk
 have g3:=HW5.out.g3
 have HLi:Hid (Calls Tryz.prog 42 #[.pointer (some ⟨gr,0,none⟩), .iface 43 (.pointer (some ⟨y.d,0,none⟩))] w5 fun e w'=>(∃ gl c:Nat,e = .returned (.slice (some ⟨gl,0,none⟩) 1 c)∧w'.cell? ⟨gl,0,none⟩=some (.string ⟨#[97]⟩)∧w'.cell? ⟨gl,1,none⟩=some (.int .u64 1)∧gl < w'.heap.size)∧Below w5.heap.size w5 w'):=hid (HW5.out.list.mono (fun e w' h=>by
  obtain ⟨A,m,c,l',he,hs,ho,hb⟩:=h
  have hl:l'=[([97],1)]:=List.perm_singleton.1 hs.perm
  subst hl
  have hm:m=1:=by
   have h1:=ho.1
   have h2:(itCells [([97],1)]).length=2:=rfl
   omega
  subst hm
  rcases ho.2 with ⟨_,h0⟩ | ⟨gl,cap,cu,h1,h2,h3,_⟩
  ·cases h0
  ·have h4:=h1
   injection h4 with h5 h6 h7
   subst h5
   refine ⟨⟨gl,c,he,?_,?_,?_⟩,hb⟩
   ·obtain ⟨b,off,hA,_,hc⟩:=(Reads.of_own ho).plain (by decide) (by decide)
    cases hA
    exact hc 0 _ rfl
   ·obtain ⟨b,off,hA,_,hc⟩:=(Reads.of_own ho).plain (by decide) (by decide)
    cases hA
    exact hc 1 _ rfl
   ·rcases Nat.lt_or_ge gl w'.heap.size with h | h
    ·exact h
    ·rw [Array.getElem?_eq_none h] at h3
     cases h3))
 go_upto_region 9 with (go_at_call 42;refine HLi.out.mono ?_;rintro e w6 ⟨⟨gl,c,rfl,l0,l1,hgl⟩,hb6⟩;have HL6:=hid (And.intro l0 (And.intro l1 hgl));have HW6:=hid (HW5.out.below hb6);have HB6:=hid (HB5.out.trans (hb6.mono HB5.out.size));clear l0 l1 hgl hb6)
 clear g3 HLi
 have g3:=HW6.out.g3
 have HS6:=hid HW6.out.stamp
 have HOl:Hid (∀ W,Below w6.heap.size w6 W→Calls Tryz.prog 41 #[.pointer (some ⟨gr,0,none⟩), .iface 43 (.pointer (some ⟨y.d,0,none⟩))] W fun e w'=>e = .returned (.int .u64 1)∧Below W.heap.size W w'):=hid (fun W hW=>(HW6.out.below hW).oldest)
 have HGc:Hid (∀ W,Below w6.heap.size w6 W→W.cell? ⟨y.g,3,none⟩=some (.pointer (some ⟨y.d,0,none⟩))∧W.cell? ⟨gl,0,none⟩=some (.string ⟨#[97]⟩)∧W.cell? ⟨gl,1,none⟩=some (.int .u64 1)):=hid (fun W hW=>⟨(HW6.out.below hW).g3,(hW.cell (p:=⟨gl,0,none⟩) HL6.out.2.2).trans HL6.out.1,(hW.cell (p:=⟨gl,1,none⟩) HL6.out.2.2).trans HL6.out.2.1⟩)
 go_wp2_with (first
  | (go_at_call 38;refine HS6.out.mono ?_;rintro e w7 ⟨rfl,hb7⟩;have HB7:=hid hb7;obtain ⟨c3,c4,c5⟩:=HGc.out w7 hb7;clear hb7)
  | (go_at_call 41;refine (HOl.out w7 HB7.out).mono ?_;rintro e w8 ⟨rfl,hb8⟩;have HB8:=hid (HB7.out.trans (hb8.mono HB7.out.size));obtain ⟨c6,c7,c8⟩:=HGc.out w8 HB8.out;clear hb8))
 go_ret
 exact ⟨rfl,HB6.out.trans (HB8.out.mono HB6.out.size)⟩
end
end
section
open Go.RowKit Go.Maps
def acCells (l:List (Nat × ByteArray)):List Value:=l.flatMap fun p=>[.int .u8 (p.1:Int), .string p.2]
theorem acCells_len (l:List (Nat × ByteArray)):(acCells l).length=l.length * 2:=by
 induction l with
 | nil=>rfl
 | cons p t ih =>
  simp only [acCells,List.flatMap_cons,List.length_append,List.length_cons,List.length_nil] at ih ⊢
  omega
theorem acCells_at:∀ (l:List (Nat × ByteArray)) (k j:Nat) (hk:k < l.length),j < 2→(acCells l)[k * 2+j]?=[Value.int .u8 ((l[k]).1:Int), .string (l[k]).2][j]?
 | p :: l,0,j,_,hj=>by
  show ([Value.int .u8 (p.1:Int), .string p.2]++acCells l)[0 * 2+j]?=_
  rw [Nat.zero_mul,Nat.zero_add,List.getElem?_append_left (show j < 2 from hj)]
  rfl
 | p :: l,k+1,j,hk,hj=>by
  have hk':k < l.length:=by simpa using hk
  have ih:=acCells_at l k j hk' hj
  show ([Value.int .u8 (p.1:Int), .string p.2]++acCells l)[(k+1) * 2+j]?=_
  rw [List.getElem?_append_right (show (2:Nat)≤(k+1) * 2+j by omega)]
  show (acCells l)[(k+1) * 2+j - 2]?=_
  rw [show (k+1) * 2+j - 2=k * 2+j by omega]
  exact ih
theorem ac_facts {w:World} {B n:Nat} {A:Option Addr} {l:List (Nat × ByteArray)} (h:Reads w B 2 A n (acCells l)) {k:Nat} (hk:k < n) :
  ∃ (hl:k < l.length) (b off:Nat),A=some ⟨b,off,none⟩∧b < B∧w.cell? ⟨b,off+k * 2,none⟩=some (.int .u8 ((l[k]).1:Int))∧w.cell? ⟨b,off+k * 2+1,none⟩=some (.string (l[k]).2):=by
 have hl:k < l.length:=by have:=h.1;rw [acCells_len] at this;omega
 obtain ⟨b,off,hA,hb,hc⟩:=h.plain (by omega) (by omega)
 exact ⟨hl,b,off,hA,hb,hc (k * 2) _ (acCells_at l k 0 hl (by omega)),hc (k * 2+1) _ (acCells_at l k 1 hl (by omega))⟩
structure ActsIn (w:World) (A:Option Addr) (n c:Nat) (l:List (Nat × ByteArray)):Prop where
 rd:Reads w w.heap.size 2 A n (acCells l)
 cap:n≤c∧c≤9223372036854775807
 each:∀ p∈l,p.1 < 256∧p.2.size≤9223372036854775807
end
section
open Go.RowKit Go.Maps
def RgX (B:Nat) (bs:List Nat) (a:DA) (x:HA) (y:WA) (q gr T N st:Nat) (l:List (List Nat × Nat)) (w:World):Prop:=∃ cs f m S cur,RgS a 149 T 3 x y cs f N m B S cur q st l w∧Blk w gr 153 #[.int .u64 (q:Int)]∧¬ sfp S x gr∧B≤w.heap.size∧∀ g∈bs,g < w.heap.size∧¬ sfp S x g
def KeptB (bs:List Nat) (w w':World):Prop:=∀ g∈bs,w'.heap[g]?=w.heap[g]?
section
variable {B:Nat} {bs:List Nat} {a:DA} {x:HA} {y:WA} {q gr T N st:Nat} {l:List (List Nat × Nat)} {w w':World}
theorem RgX.rgW (h:RgX B bs a x y q gr T N st l w):RgW B a x y q gr T N st l w:=by
 obtain ⟨cs,f,m,S,cur,h1,h2,h3,h4,_⟩:=h
 exact ⟨cs,f,m,S,cur,h1,h2,h3,h4⟩
theorem RgW.rgX (h:RgW B a x y q gr T N st l w):RgX B [] a x y q gr T N st l w:=by
 obtain ⟨cs,f,m,S,cur,h1,h2,h3,h4⟩:=h
 exact ⟨cs,f,m,S,cur,h1,h2,h3,h4,fun g hg=>absurd hg (by simp)⟩
theorem RgX.below (h:RgX B bs a x y q gr T N st l w) (hb:Below w.heap.size w w'):RgX B bs a x y q gr T N st l w':=by
 obtain ⟨cs,f,m,S,cur,h1,h2,h3,h4,h5⟩:=h
 exact ⟨cs,f,m,S,cur,h1.below hb,h2.below hb h2.lt,h3,Nat.le_trans h4 hb.size,fun g hg=>⟨Nat.lt_of_lt_of_le (h5 g hg).1 hb.size,(h5 g hg).2⟩⟩
theorem RgW.size (h:RgW B a x y q gr T N st l w):B≤w.heap.size:=by
 obtain ⟨cs,f,m,S,cur,h1,h2,h3,h4⟩:=h
 exact h4
theorem RgX.new (h:RgX B bs a x y q gr T N st l w) (hb:Below w.heap.size w w') {g:Nat} (hg:w.heap.size≤g) (hg':g < w'.heap.size):RgX B (g :: bs) a x y q gr T N st l w':=by
 have h0:=h.below hb
 obtain ⟨cs,f,m,S,cur,h1,h2,h3,h4,h5⟩:=h
 refine ⟨cs,f,m,S,cur,h1.below hb,h2.below hb h2.lt,h3,Nat.le_trans h4 hb.size,fun g' hg2=>?_⟩
 rcases List.mem_cons.1 hg2 with rfl | hg2
 ·refine ⟨hg',fun hz=>?_⟩
  have:=sfp_lt h1.bw.sd hz
  omega
 ·exact ⟨Nat.lt_of_lt_of_le (h5 g' hg2).1 hb.size,(h5 g' hg2).2⟩
theorem RgX.more {T':Nat} (h:RgX B bs a x y q gr T N st l w) (hT:T≤T') (hT':T'≤1000000000):RgX B bs a x y q gr T' N st l w:=by
 obtain ⟨cs,f,m,S,cur,h1,h2,h3,h4,h5⟩:=h
 exact ⟨cs,f,m,S,cur,{ h1 with bw:=h1.bw.more hT hT' (Nat.le_refl _) },h2,h3,h4,h5⟩
theorem RgTo.rgX {cs:Nat→CS} {f:Nat→Option Nat} {m:Nat} {S:Fp} {cur:Nat→Nat} {st':Nat} {l':List (List Nat × Nat)} (h1:RgS a 149 T 3 x y cs f N m B S cur q st l w) (h2:Blk w gr 153 #[.int .u64 (q:Int)]) (h3:¬ sfp S x gr) (h4:B≤w.heap.size) (h5:∀ g∈bs,g < w.heap.size∧¬ sfp S x g) (h:RgTo a 149 T 3 x y cs f N m B S w q st' l' w'):RgX B bs a x y q gr (T+800) N st' l' w'∧Below B w w'∧KeptB bs w w':=by
 obtain ⟨S',cur',g1,g2,g3⟩:=h
 have hb:Below B w w':=g2.toBelow h4 (fun i hi=>sfp_old h1.bw.sd hi)
 have hno:∀ g,g < w.heap.size→¬ sfp S x g→¬ sfp S' x g:=fun g hg hz hz'=>by
  rcases hz' with hz' | hz'
  ·rcases g3 _ hz' with e | e
   ·exact hz (.inl e)
   ·exact absurd hg (Nat.not_lt.2 e)
  ·exact hz (.inr hz')
 refine ⟨⟨cs,f,m,S',cur',g1,g2.blk h2 h3,hno gr h2.lt h3,Nat.le_trans h4 hb.size,fun g hg=>⟨Nat.lt_of_lt_of_le (h5 g hg).1 hb.size,hno g (h5 g hg).1 (h5 g hg).2⟩⟩,hb,fun g hg=>?_⟩
 exact g2.block g (h5 g hg).1 (h5 g hg).2
theorem RgX.take_ (h:RgX B bs a x y q gr T N st l w) (nm:ByteArray) (hs:nm.size≤9223372036854775807) (hT:T+800≤1000000000) (hN:N≤1000000000) :
  Calls Tryz.prog 36 #[.pointer (some ⟨gr,0,none⟩), .iface 43 (.pointer (some ⟨y.d,0,none⟩)), .string nm] w fun e w'=>e = .returned (.tuple #[.int .u64 ((tkR nm (some (st,l),0)).1.1:Int), .int .i64 ((tkR nm (some (st,l),0)).1.2:Int)])∧RgX B bs a x y q gr (T+800) N st (tkL nm st l) w'∧Below B w w'∧KeptB bs w w':=by
 obtain ⟨cs,f,m,S,cur,h1,h2,h3,h4,h5⟩:=h
 exact (h1.take_ (by decide) h2 nm hs hT hN).mono (fun e w' g=>⟨g.1,RgTo.rgX h1 h2 h3 h4 h5 g.2⟩)
theorem RgX.drop_ (h:RgX B bs a x y q gr T N st l w) (nm:ByteArray) (hT:T+800≤1000000000) (hN:N≤1000000000) :
  Calls Tryz.prog 40 #[.pointer (some ⟨gr,0,none⟩), .iface 43 (.pointer (some ⟨y.d,0,none⟩)), .string nm] w fun e w'=>e = .returned (.int .i64 ((drpR nm (some (st,l),0)).1:Int))∧RgX B bs a x y q gr (T+800) N st (dpL nm st l) w'∧Below B w w'∧KeptB bs w w':=by
 obtain ⟨cs,f,m,S,cur,h1,h2,h3,h4,h5⟩:=h
 exact (h1.drop_ (by decide) h2 nm hT hN).mono (fun e w' g=>⟨g.1,RgTo.rgX h1 h2 h3 h4 h5 g.2⟩)
theorem RgX.pubNext (h:RgX B bs a x y q gr T N st l w) (hs:st < 4611686018427387903) {g:Nat} (hg:Blk w g 90 #[.int .u64 (pOff q:Int), .int .u64 ((st+1:Nat):Int)]) (hT:T+800≤1000000000) (hN:N≤1000000000) :
  Calls Tryz.prog 39 #[.pointer (some ⟨y.d,0,none⟩), .slice (some ⟨g,0,none⟩) 1 1, .slice none 0 0, .slice none 0 0] w fun e w'=>e = .returned (.int .i64 0)∧RgX B bs a x y q gr (T+800) N (st+1) l w'∧Below B w w'∧KeptB bs w w':=by
 obtain ⟨cs,f,m,S,cur,h1,h2,h3,h4,h5⟩:=h
 exact (h1.pubNext (by decide) hs hg hT hN).mono (fun e w' g=>⟨g.1,RgTo.rgX h1 h2 h3 h4 h5 g.2⟩)
end
end
end Go.Proofs.YtnlokpakiambaaaGreatDoor

/- The walks and laws that the claim leans on, part 47. -/
import Derived.Test.YtfkjjoglnmeciaaGreatDoorQbt
set_option maxRecDepth 100000
set_option maxHeartbeats 16000000
namespace Go.Proofs.YtfkjjoglnmeciaaGreatDoor
open Go.Lib (hid)
section
open Go.RowKit Go.Maps
structure DR where
 gap:Nat
 dl:Bool
 D:Option Addr
 nd:Nat
 cd:Nat
 p:List Nat
def DR.cells (r:DR):List Value:=[.int .u8 (r.gap:Int), .bool r.dl, .slice r.D r.nd r.cd]
def drCells (l:List DR):List Value:=l.flatMap DR.cells
def DR.In (w:World) (r:DR):Prop:=Reads w w.heap.size 1 r.D r.nd (u8s r.p)∧(∀ b∈r.p,b < 256)∧r.nd≤r.cd∧r.cd≤9223372036854775807∧r.gap < 256
def DrsIn (w:World) (A:Option Addr) (n c:Nat) (l:List DR):Prop:=Reads w w.heap.size 3 A n (drCells l)∧n≤c∧c≤9223372036854775807∧∀ r∈l,r.In w
theorem drCells_len:∀ l:List DR,(drCells l).length=l.length * 3
 | []=>rfl
 | r :: l=>by
  have:=drCells_len l;simp only [drCells,List.flatMap_cons,List.length_append,List.length_cons] at this ⊢;rw [this];show 3+l.length * 3=_;omega
theorem drCells_at:∀ (l:List DR) (k j:Nat) (hk:k < l.length),j < 3→(drCells l)[k * 3+j]?=(l[k]).cells[j]?
 | r :: l,0,j,_,hj=>by
  show (r.cells++drCells l)[0 * 3+j]?=r.cells[j]?;rw [Nat.zero_mul,Nat.zero_add,List.getElem?_append_left (show j < 3 from hj)]
 | r :: l,k+1,j,hk,hj=>by
  have hk':k < l.length:=by simpa using hk
  have ih:=drCells_at l k j hk' hj;show (r.cells++drCells l)[(k+1) * 3+j]?=(l[k]).cells[j]?;rw [List.getElem?_append_right (show (3:Nat)≤(k+1) * 3+j by omega)];show (drCells l)[(k+1) * 3+j - 3]?=_;rw [show (k+1) * 3+j - 3=k * 3+j by omega];exact ih
theorem dr_facts {w:World} {B n:Nat} {A:Option Addr} {l:List DR} (h:Reads w B 3 A n (drCells l)) {k:Nat} (hk:k < n) :
  ∃ (hl:k < l.length) (b off:Nat),A=some ⟨b,off,none⟩∧b < B∧w.cell? ⟨b,off+k * 3,none⟩=some (.int .u8 ((l[k]).gap:Int))∧w.cell? ⟨b,off+k * 3+1,none⟩=some (.bool (l[k]).dl)∧w.cell? ⟨b,off+k * 3+2,none⟩=some (.slice (l[k]).D (l[k]).nd (l[k]).cd):=by
 have hl:k < l.length:=by have:=h.1;rw [drCells_len] at this;omega
 obtain ⟨b,off,hA,hb,hc⟩:=h.plain oM oM;exact ⟨hl,b,off,hA,hb,hc (k * 3) _ (drCells_at l k 0 hl oM),hc (k * 3+1) _ (drCells_at l k 1 hl oM),hc (k * 3+2) _ (drCells_at l k 2 hl oM)⟩
theorem dr_len {w:World} {B n:Nat} {A:Option Addr} {l:List DR} (h:Reads w B 3 A n (drCells l)):l.length=n:=by
 have:=h.1;rw [drCells_len] at this;omega
theorem DR.In.below {w w':World} {r:DR} (h:r.In w) (hb:Below w.heap.size w w'):r.In w':=⟨(h.1.below hb).more hb.size,h.2⟩
def stP (l:List DR):Nat→Nat
 | 0=>0
 | i+1=>stP l i+((l[i]?).map DR.gap).getD 0+(if i=0 then 0 else 1)
theorem stP_le (l:List DR) (h:∀ r∈l,r.gap < 256):∀ i,stP l i≤256 * i
 | 0=>nL _
 | i+1=>by
  have ih:=stP_le l h i;have h2:((l[i]?).map DR.gap).getD 0≤255:=by
   cases hl:l[i]? with
   | none=>exact Nat.zero_le _
   | some r =>
    have:=h r (List.mem_of_getElem? hl);show r.gap≤255;omega
  unfold stP;split <;> omega
def BgIs (l:List DR) (i:Nat) (rl:List RV):Prop:=rl.length=i∧rl.reverse.map (fun r=>(r.v.st,r.v.dl,r.v.p))=(List.range i).map fun j=>(stP l (j+1),((l[j]?).map DR.dl).getD false,if ((l[j]?).map DR.dl).getD false=true then [] else (((l[j]?).map DR.p).getD []).take 500)
theorem BgIs.nil (l:List DR):BgIs l 0 []:=⟨rfl,rfl⟩
theorem BgIs.add {l:List DR} {i:Nat} {rl:List RV} {r:RV} (h:BgIs l i rl) (hi:i < l.length) (h1:r.v.st=stP l (i+1)) (h2:r.v.dl=(l[i]).dl) (h3:r.v.p=if (l[i]).dl=true then [] else (l[i]).p.take 500):BgIs l (i+1) (r :: rl):=by
 refine ⟨by rw [List.length_cons,h.1],?_⟩;rw [List.reverse_cons,List.map_append,h.2,List.range_succ,List.map_append];congr 1
 simp only [List.map_cons,List.map_nil,List.getElem?_eq_getElem hi,Option.map_some,Option.getD_some,h1,h2,h3]
end
section
open Go.RowKit Go.Maps
theorem folW_pre (rd:Nat→Nat × Nat × Bool × Nat × Nat):∀ (k p last n:Nat) (s:List (Nat × Bool × Nat × Nat)),s <+: (folW rd chSt k p last n s).2
 | 0,_,_,_,_=>List.prefix_rfl
 | k+1,p,last,n,s=>by
  unfold folW;split
  ·exact List.prefix_rfl
  ·split
   ·exact List.prefix_rfl
   ·rw [if_neg (show ¬ (chSt s p (rd p).2).2=false by simp [chSt])]
    exact (List.prefix_append s [(rd p).2]).trans (folW_pre rd k _ _ _ _)
def chL:List VV→List (Nat × Bool × Nat × Nat)
 | []=>[]
 | v :: t=>(v.st,v.dl,v.dt,hdQ t) :: chL t
theorem chL_len:∀ l,(chL l).length=l.length
 | []=>rfl
 | _ :: t=>by rw [chL,List.length_cons,chL_len t,List.length_cons]
theorem foldV_ch:∀ (l:List VV) (s:List (Nat × Bool × Nat × Nat)),foldV chSt l s=s++chL l
 | [],s=>by simp [foldV,chL]
 | v :: t,s=>by
  unfold foldV;rw [if_neg (show ¬ (chSt s v.q (v.st,v.dl,v.dt,hdQ t)).2=false by simp [chSt])];show foldV chSt t (s++[(v.st,v.dl,v.dt,hdQ t)])=_;rw [foldV_ch t,chL,List.append_assoc];rfl
section
variable {a:DA} {L T n K:Nat} {x:HA} {cs:Nat→CS} {f:Nat→Option Nat} {N m b0:Nat} {S:Fp} {cur:Nat→Nat} {w w0:World} {d r:Nat}
theorem chain_hist {l0:List VV} (h:SD a L T 53 n K x cs f N m b0 S cur w0 d r) (hw:Below w0.heap.size w0 w) (hist:HistA K cs cur l0) (hlen:l0.length≤4096) (head:Nat) (hhd:head=hdQ l0) (gs gp:Nat) (hs:Blk w gs 83 #[.iface 59 (.pointer (some ⟨d,0,none⟩))]) (hp:Blk w gp 54 #[.int .u64 (head:Int)]) (Zb:Fp) (hZ:∀ k,Zb k→k < w.heap.size) :
  SeqStopsK Fence.wide 6 Tryz.prog 127 #[.pointer (some ⟨gs,0,none⟩), .pointer (some ⟨gp,0,none⟩)] vEnc (KpC w0.heap.size Zb) (fun xs=>xs=chL l0) (fun pre=>pre <+: chL l0) 4096 w:=by
 have hh:head < 18446744073709551616:=hhd ▸ hist.hd64;have hX:folW (verR cur (fun q=>chkR 53 K cs q 7)) chSt 4097 head 4611686018427387904 0 []=(0,chL l0):=by
  have h1:=hist.fol chSt hlen [];rw [foldV_ch,List.nil_append] at h1;rw [hhd];exact h1
 intro l J Jx W hW hJ hJx hY h0;obtain ⟨W1,hW1⟩:∃ W1,W.alloc (.cells #[.func (.yield l) #[] #[]] 231)=W1:=⟨_,rfl⟩
 have hb1:Below W.heap.size W W1:=by rw [← hW1];exact (Below.refl _ _).alloc (nL _) _
 have hy1:Blk W1 W.heap.size 231 #[.func (.yield l) #[] #[]]:=by rw [← hW1];exact Blk.new _ _ _
 have hwW:Below w0.heap.size w0 W:=hw.trans (hW.mono hw.size);have HFo:=hid (vfollowy_any h (hwW.trans (hb1.mono hwW.size)) head hh 129 #[.pointer (some ⟨W.heap.size,0,none⟩)] (fun n last q=>q.length≤n∧GoodC 4611686018427387904 q∧lastC 4611686018427387904 q=last) Zb (fun q W2=>J q W2∧Blk W2 W.heap.size 231 #[.func (.yield l) #[] #[]]∧W.heap.size≤W2.heap.size) (fun W2=>∃ pre,pre <+: chL l0∧Jx pre W2) chSt []
  (fun q W2 hR k hk=>by have h1:=hZ k hk;have h2:=hW.size;have h3:=hR.2.2;omega)
  ⟨nL _,trivial,rfl⟩ (fun n last q p v _ hI hl hv=>by
   obtain ⟨g1,g2⟩:=GoodC.add hI.2.1 (hI.2.2.symm ▸ hl) hv;refine ⟨?_,g1,g2⟩;show (q++[v]).length≤n+1;rw [List.length_append];simpa using hI.1)
  ⟨abides_below hJ h0 hb1,hy1,hb1.size⟩ (fun q W2 W3 hR hb=>⟨abides_below hJ hR.1 hb,hR.2.1.below hb hR.2.1.lt,Nat.le_trans hR.2.2 hb.size⟩) (fun args w=>by kernel_rfl) (fun q=>q <+: chL l0) (fun n p last s' he=>by
   have h1:=folW_pre (verR cur (fun q=>chkR 53 K cs q 7)) (4097 - n) p last n s';rw [he,hX] at h1;exact h1)
  (fun q n last p sp dl dt ol W2 hn hI hls hR hb hok _ _ _ _ hpz=>by
   have e:(#[Value.int .u64 (p:Int), .agg #[.int .u64 (sp:Int), .bool dl, .int .u64 (dt:Int), .int .u64 (ol:Int)]]++#[Value.pointer (some ⟨W.heap.size,0,none⟩)])=#[.int .u64 (p:Int), .agg #[.int .u64 (sp:Int), .bool dl, .int .u64 (dt:Int), .int .u64 (ol:Int)], .pointer (some ⟨W.heap.size,0,none⟩)]:=by simp
   rw [e];have hba:=(Below.refl W2.heap.size W2).alloc (nL _) (.cells #[.int .u64 (sp:Int), .bool dl, .int .u64 (dt:Int), .int .u64 (ol:Int)] 97);have hI2:q.length≤n:=hI.1;have h1:=hY q (sp,dl,dt,ol) _ (abides_below hJ hR.1 hba) oM;refine (chain11_any p sp dl dt ol W.heap.size l _ W2 hR.2.1 h1 (fun e w' he=>?_)).mono (fun e w' he=>?_)
   ·rcases he with ⟨rfl,_⟩ | ⟨rfl,_⟩
    ·exact ⟨_,rfl⟩
    ·exact ⟨_,rfl⟩
   ·rcases he with ⟨rfl,hj,hk⟩ | ⟨rfl,hj⟩
    ·have hz:¬ Zb W.heap.size:=fun hz=>by have h1:=hZ _ hz;have h2:=hW.size;omega
     refine .inl ⟨rfl,⟨hj,hk.blk (hR.2.1.below hba hR.2.1.lt) hz,Nat.le_trans hR.2.2 (Nat.le_trans hba.size hk.1.size)⟩,(KpC.of_below hba hb.size).trans hk⟩
    ·exact .inr ⟨rfl,_,hpz rfl,hj⟩))
 rw [hX] at HFo;have HW1:=hid hW1;have s1:W1.cell? ⟨gs,0,none⟩=some (.iface 59 (.pointer (some ⟨d,0,none⟩))):=((hs.below hW hs.lt).below hb1 (hs.below hW hs.lt).lt).cell 0;have s2:W1.cell? ⟨gp,0,none⟩=some (.int .u64 (head:Int)):=((hp.below hW hp.lt).below hb1 (hp.below hW hp.lt).lt).cell 0;have hmf:∀ (fn:Fn) (first cap:Array Value) (w:World),(Instr.makeFunc fn first cap).run Tryz.prog w = .ok (.func fn first cap) w:=fun _ _ _ _=>rfl
 generalize verR cur (fun q=>chkR 53 K cs q 7)=rd at *;refine callsIn_wide.2 ?_;show Calls Tryz.prog 127 #[.func (.yield l) #[] #[], .pointer (some ⟨gs,0,none⟩), .pointer (some ⟨gp,0,none⟩)] W _;clear h hw hh hhd hX hist hs hp hZ hW hJ hJx hY h0 hW1 hb1 hy1 hwW;go_enter Tryz.func127,Tryz.ntmps127
 go_upto_region 1 with fail
 rw [HW1.out];go_wp2_with (go_at_call 128;refine HFo.out.mono ?_;rintro e w2 (⟨rfl,hr,hb⟩ | ⟨rfl,hx⟩))
 ·go_end0
  exact ⟨⟨_,rfl⟩, .inl ⟨_,rfl,hr.1⟩⟩
 ·obtain ⟨pre,hg,hx⟩:=hx
  go_end0;exact ⟨⟨_,rfl⟩, .inr ⟨pre,hg,hx⟩⟩
end
end
section
open Go.RowKit Go.Maps
def OffA (S:Fp) (x:HA) (w:World) (A:Option Addr) (n:Nat):Prop:=0 < n→∀ ad,A=some ad→ad.block < w.heap.size∧¬ sfp S x ad.block
structure HP where
 a:DA
 T:Nat
 x:HA
 y:WA
 cs:Nat→CS
 f:Nat→Option Nat
 N:Nat
 m:Nat
 b0:Nat
 S:Fp
 cur:Nat→Nat
 A:Option Addr
 n:Nat
 c:Nat
 al:List Nat
structure HsJ (w0:World) (k gh:Nat) (rl:List RV) (vl:List VV) (z:HP) (w:World):Prop where
 bw:BW z.a 373 z.T 10 z.x z.y z.cs z.f z.N z.m z.b0 z.S z.cur w
 blk:Blk w gh 92 #[.pointer (some ⟨z.y.g,0,none⟩), .slice z.A z.n z.c]
 rd:Reads w w.heap.size 5 z.A z.n (rvCells rl)
 cp:z.n≤z.c
 rin:∀ r∈rl,Reads w w.heap.size 1 r.B r.nb (uCells r.v.bl)∧Reads w w.heap.size 1 r.D r.nd (u8s r.v.p)∧OffA z.S z.x w r.B r.nb∧OffA z.S z.x w r.D r.nd∧r.nd≤r.cd
 rne:∀ r∈rl,(0 < r.nb→∀ ad,r.B=some ad→ad.block≠gh)∧(0 < r.nd→∀ ad,r.D=some ad→ad.block≠gh)
 offA:OffA z.S z.x w z.A z.n
 offg:¬ sfp z.S z.x gh
 hist:HistA 10 z.cs z.cur vl
 link:z.cur 416=hdQ vl
 cap:Cap 53 10 z.cs z.f z.al
 room:RoomV k 0 z.al
 tm:z.T≤100+5000 * k
 nm:z.N≤20 * k
 old:∀ i,sfp z.S z.x i→w0.heap.size≤i
 ghl:w0.heap.size≤gh
 ord:LoS z.x z.y.d z.y.r z.b0 gh∧z.y.g < gh∧z.y.u < gh∧z.y.m < gh
 below:Below w0.heap.size w0 w
theorem sfp_lt {a:DA} {L T n K:Nat} {x:HA} {cs:Nat→CS} {f:Nat→Option Nat} {N m b0:Nat} {S:Fp} {cur:Nat→Nat} {w:World} {d r:Nat} (h:SD a L T 53 n K x cs f N m b0 S cur w d r) {i:Nat} (hi:sfp S x i):i < w.heap.size:=by
 rcases hi with e | e
 ·exact h.ds.dev.lt _ e
 ·have h1:=h.lo
  have h2:=h1.pl;have h3:=h1.mr;have h4:=h1.mh;have e':i=x.pl∨i=x.mr∨i=x.mh:=e;omega
theorem OffA.grew {S S':Fp} {x:HA} {w w':World} {A:Option Addr} {n:Nat} (h:OffA S x w A n) (hg:Grew S S' w) (hs:w.heap.size≤w'.heap.size):OffA S' x w' A n:=fun hn ad had=>by
 obtain ⟨h1,h2⟩:=h hn ad had;refine ⟨oM,?_⟩;rintro (e | e)
 ·rcases hg _ e with h3 | h3
  ·exact h2 (.inl h3)
  ·omega
 ·exact h2 (.inr e)
theorem OffA.size {S:Fp} {x:HA} {w w':World} {A:Option Addr} {n:Nat} (h:OffA S x w A n) (hs:w.heap.size≤w'.heap.size):OffA S x w' A n:=h.grew (Grew.refl _ _) hs
section
variable {w0 w w':World} {k gh:Nat} {rl:List RV} {vl:List VV} {z:HP}
theorem chg_reads3 {Z:Fp} {size n:Nat} {A:Option Addr} {xs:List Value} (hc:Chg Z w w') (hr:Reads w w.heap.size size A n xs) (hS:0 < n→∀ ad,A=some ad→¬ Z ad.block):Reads w' w'.heap.size size A n xs:=by
 by_cases hn:0 < n
 ·exact (hc.reads hr (nL _) (hS hn)).more hc.size
 ·exact ⟨hr.1,fun h=>absurd h hn⟩
theorem HsJ.move (h:HsJ w0 k gh rl vl z w) {T' N' m' k':Nat} {cs':Nat→CS} {f':Nat→Option Nat} {S':Fp} {cur':Nat→Nat} {vl':List VV} {al':List Nat} (hbw:BW z.a 373 T' 10 z.x z.y cs' f' N' m' z.b0 S' cur' w') (hc:Chg (sfp z.S z.x) w w') (hg:Grew z.S S' w)
  (hh:HistA 10 cs' cur' vl') (hl:cur' 416=hdQ vl') (hcap:Cap 53 10 cs' f' al') (hroom:RoomV k' 0 al') (hT:T'≤100+5000 * k') (hN:N'≤20 * k') :
  HsJ w0 k' gh rl vl' ⟨z.a,T',z.x,z.y,cs',f',N',m',z.b0,S',cur',z.A,z.n,z.c,al'⟩ w':=by
 have hs:=hc.size;refine ⟨hbw,hc.blk h.blk h.offg,chg_reads3 hc h.rd (fun hn ad had=>(h.offA hn ad had).2),h.cp,fun r hr=>?_,h.rne,h.offA.grew hg hs,?_,hh,hl,hcap,hroom,hT,hN,fun i hi=>?_,h.ghl,h.ord,?_⟩
 ·obtain ⟨r1,r2,r3,r4,r5⟩:=h.rin r hr
  exact ⟨chg_reads3 hc r1 (fun hn ad had=>(r3 hn ad had).2),chg_reads3 hc r2 (fun hn ad had=>(r4 hn ad had).2),r3.grew hg hs,r4.grew hg hs,r5⟩
 ·rintro (e | e)
  ·rcases hg _ e with h3 | h3
   ·exact h.offg (.inl h3)
   ·have:=h.blk.lt
    omega
  ·exact h.offg (.inr e)
 ·rcases hi with e | e
  ·rcases hg _ e with h3 | h3
   ·exact h.old i (.inl h3)
   ·have:=h.below.size
    omega
  ·exact h.old i (.inr e)
 ·exact h.below.trans (hc.toBelow h.below.size h.old)
theorem HsJ.below_ (h:HsJ w0 k gh rl vl z w) (hb:Below w.heap.size w w'):HsJ w0 k gh rl vl z w' :=
 h.move (h.bw.below hb) (Chg.of_below hb) (Grew.refl _ _) h.hist h.link h.cap h.room h.tm h.nm
theorem HsJ.fresh (h:HsJ w0 k gh rl vl z w) {g:Nat} (hg:w.heap.size≤g):¬ sfp z.S z.x g:=fun hz=>by
 have:=sfp_lt h.bw.sd hz;omega
structure AddA (k:Nat) (z:HP) (dl:Bool) (bl p:List Nat) (w wA:World) (T1 N1:Nat) (cs1:Nat→CS) (f1:Nat→Option Nat) (S1:Fp) (cur1:Nat→Nat) (al1:List Nat):Prop where
 sd:SD z.a 373 T1 53 (32 * 10) 10 z.x cs1 f1 N1 (z.m+bl.length) z.b0 S1 cur1 wA z.y.d z.y.r
 prep:Prep 10 z.cs z.f z.cur cs1 f1 cur1 bl
 words:∀ j (hj:j < bl.length),WordsAt cur1 bl[j] (payL (bl.getD (j+1) 0) (p.drop (456 * j)))∧Rq 53 10 cs1 f1 1 bl[j] (clsOf (bSize (p.length - 456 * j)))
 blen:bl.length=if dl=true then 0 else nBlk p.length
 cap:Cap 53 10 cs1 f1 al1
 room:RoomV k 1 al1
 chg:Chg (sfp z.S z.x) w wA
 grew:Grew z.S S1 w
 tm:T1≤z.T+3000
 nm:N1≤z.N+10
theorem RoomV.more {k:Nat} {al:List Nat} (h:RoomV k 0 al):RoomV k 1 al:=by
 obtain ⟨h0,h1,h2,h3,h4⟩:=h;unfold RoomV;omega
theorem AddA.none (h:HsJ w0 k gh rl vl z w) (hb:Below w.heap.size w w'):AddA k z true [] [] w w' z.T z.N z.cs z.f z.S z.cur z.al :=
 ⟨h.bw.sd.below hb,Prep.nil,fun j hj=>absurd hj (Nat.not_lt_zero j),rfl,h.cap,h.room.more,Chg.of_below hb,Grew.refl _ _,Nat.le_add_right _ _,Nat.le_add_right _ _⟩
theorem few_blk {p:List Nat} (hp:p.length≤500):nBlk p.length≤2:=by
 unfold nBlk;split <;> omega
theorem AddA.some_ {bl p:List Nat} {cs1:Nat→CS} {f1:Nat→Option Nat} {S1:Fp} {cur1:Nat→Nat} (h:HsJ w0 k gh rl vl z w) (hp:p.length≤500) (hlen:bl.length=nBlk p.length) (hw:W2 53 10 z.cs z.f z.cur z.al p cs1 f1 cur1 bl bl.length)
  (hsd:SD z.a 373 (z.T+3000) 53 (32 * 10) 10 z.x cs1 f1 (z.N+bl.length) (z.m+bl.length) z.b0 S1 cur1 w' z.y.d z.y.r) (hc:Chg (sfp z.S z.x) w w') (hg:Grew z.S S1 w):AddA k z false bl p w w' (z.T+3000) (z.N+bl.length) cs1 f1 S1 cur1 (alW p.length z.al (nBlk p.length)):=by
 have h2:=few_blk hp;refine ⟨hsd,Prep.of2 hw,fun j hj=>⟨hw.words j hj hj,hw.w1.rq j hj⟩,hlen,?_,h.room.blob hp,hc,hg,nL _,oM⟩;rw [← hlen];exact hw.w1.cap
variable {dl:Bool} {bl p:List Nat} {wA wB wC wD wE:World} {T1 N1:Nat} {cs1:Nat→CS} {f1:Nat→Option Nat} {S1:Fp} {cur1:Nat→Nat} {al1:List Nat}
structure AddB (k:Nat) (z:HP) (st:Nat) (dl:Bool) (bl p:List Nat) (older q:Nat) (w wA:World) (T1 N1:Nat) (cs1:Nat→CS) (f1:Nat→Option Nat) (S1:Fp) (cur1:Nat→Nat) (al1:List Nat):Prop where
 sd:SD z.a 373 T1 53 (32 * 10) 10 z.x cs1 f1 N1 (z.m+(bl++[q]).length) z.b0 S1 cur1 wA z.y.d z.y.r
 prep:Prep 10 z.cs z.f z.cur cs1 f1 cur1 (bl++[q])
 words:∀ j (hj:j < bl.length),WordsAt cur1 bl[j] (payL (bl.getD (j+1) 0) (p.drop (456 * j)))∧Rq 53 10 cs1 f1 1 bl[j] (clsOf (bSize (p.length - 456 * j)))
 ver:WordsAt cur1 q [wSt st dl,bl.headD 0,older]∧Rq 53 10 cs1 f1 7 q 0
 blen:bl.length=if dl=true then 0 else nBlk p.length
 cap:Cap 53 10 cs1 f1 al1
 room:RoomV (k+1) 0 al1
 chg:Chg (sfp z.S z.x) w wA
 grew:Grew z.S S1 w
 tm:T1≤z.T+3600
 nm:N1≤z.N+11
theorem AddA.cap_has (h:AddA k z dl bl p w wA T1 N1 cs1 f1 S1 cur1 al1) (hk:k < 8):(∃ k i,Vac 53 10 cs1 f1 (clsOf 3) k i)∨∃ k,k < 10∧(cs1 k).dv=false :=
 h.cap.has (cl:=clsOf 3) (by decide) (roomV_le (j:=0) oM (h.room.ver (nL _)))
theorem AddA.plan {st older q kk ii:Nat} {cs2:Nat→CS} {S2:Fp} {cur2:Nat→Nat} (h:AddA k z dl bl p w wA T1 N1 cs1 f1 S1 cur1 al1) (hq:fptr 53 cs2 7 kk ii=q) (ho:ResOk 53 10 cs1 f1 cur1 0 cs2 cur2 kk ii)
  (hsd:SD z.a 373 (T1+400+200) 53 (32 * 10) 10 z.x cs2 (updF f1 (offO 53 cs2 kk ii) (some q)) (N1+1) (z.m+bl.length+1) z.b0 S2 (wrS cur2 (pwW (pOff q) [wSt st dl,bl.headD 0,older])) wB z.y.d z.y.r) (hc:Chg (sfp S1 z.x) wA wB) (hg:Grew S1 S2 wA)
  (hr:Rq 53 10 cs2 (updF f1 (offO 53 cs2 kk ii) (some q)) 7 q 0) (hat:At 53 10 cs2 q kk ii) :
  AddB k z st dl bl p older q w wB (T1+400+200) (N1+1) cs2 (updF f1 (offO 53 cs2 kk ii) (some q)) S2 (wrS cur2 (pwW (pOff q) [wSt st dl,bl.headD 0,older])) (0 :: al1):=by
 have hcl:(cs2 kk).cl=0:=ho.vac.2.2.1;obtain ⟨h1,h2⟩:=h.prep.add h.sd.ds ho (by decide) (by decide) hq hr hat (l:=[wSt st dl,bl.headD 0,older]) (by rw [hcl];exact nL 3);refine ⟨?_,h1,fun j hj=>?_,⟨pwW_words,hr⟩,h.blen,?_,h.room.ver (nL _),?_,?_,by have:=h.tm;omega,by have:=h.nm;omega⟩
 ·rw [List.length_append]
  exact hsd
 ·obtain ⟨g1,g2⟩:=h.words j hj
  refine ⟨g2.words h2 ?_ g1,(g2.step h.sd.ds (by decide) ho).1⟩;rw [payL_len,List.length_drop,bSize_cls];exact nL _
 ·exact h.cap.alloc h.sd.ds (by decide) ho
 ·refine h.chg.trans hc (fun i hi=>?_)
  rcases hi with e | e
  ·rcases h.grew i e with e1 | e1
   ·exact .inl (.inl e1)
   ·exact .inr e1
  ·exact .inl (.inr e)
 ·exact h.grew.trans hg h.chg.size
variable {st older q:Nat}
theorem AddB.below_ (h:AddB k z st dl bl p older q w wA T1 N1 cs1 f1 S1 cur1 al1) (hb:Below wA.heap.size wA wB):AddB k z st dl bl p older q w wB T1 N1 cs1 f1 S1 cur1 al1 :=
 { h with sd:=h.sd.below hb,chg:=h.chg.below hb }
theorem AddB.keep_ok (h:AddB k z st dl bl p older q w wA T1 N1 cs1 f1 S1 cur1 al1):∀ r∈bl++[q],KeepOk 53 10 cs1 f1 r:=fun r hr=>by
 obtain ⟨kd,c,_,h3⟩:=h.prep.rq r hr;exact h3.keep
theorem AddB.q_ok (h:AddB k z st dl bl p older q w wA T1 N1 cs1 f1 S1 cur1 al1):q≠0∧q < 18446744073709551616∧pKind q=7:=⟨h.ver.2.keep.nz.1,h.ver.2.keep.nz.2,h.ver.2.kind_⟩
theorem AddB.set (h:AddB k z st dl bl p older q w wA T1 N1 cs1 f1 S1 cur1 al1) (hj:HsJ w0 k gh rl vl z w) (hold:older=hdQ vl) (hst:st≤4611686018427387903) (hlt:∀ u∈vl,u.st < st) (hp:∀ b∈p,b < 256) (hp2:p.length≤500) {e:Ending} {n1:Nat} (hn1:n1=(bl++[q]).length)
  (hpub:RetPub z.a 373 T1 53 (32 * 10) 10 z.x cs1 f1 N1 (z.m+(bl++[q]).length) z.b0 S1 cur1 wA z.y.d z.y.r [(3328+8 * 0,q)] (bl++[q]) [] n1 e wB) :
  ∃ z',HsJ w0 (k+1) gh rl (⟨st,dl,q,bl,p⟩ :: vl) z' wB∧z'.a=z.a∧z'.x=z.x∧z'.y=z.y∧z'.A=z.A∧z'.n=z.n∧z'.c=z.c∧Chg (sfp S1 z.x) wA wB∧Grew S1 z'.S wA:=by
 obtain ⟨ks,V,cm,S3,_,hA,hks,hcm,h96,hsd,hch,hgr⟩:=hpub;have hkeep:=h.prep.keepL (i:=0) (v:=q) (cm:=cm) h.sd.ds hA h96 (by decide);have hlink:=pub_link (i:=0) (cm:=cm) h.sd.ds hA (by decide) h.q_ok.2.1;have hc2:Chg (sfp z.S z.x) w wB:=h.chg.trans hch (fun i hi=>by
  rcases hi with e1 | e1
  ·rcases h.grew i e1 with e2 | e2
   ·exact .inl (.inl e2)
   ·exact .inr e2
  ·exact .inl (.inr e1))
 have hg2:Grew z.S S3 w:=h.grew.trans hgr h.chg.size;have huid:rdG 0 cur1 ([(3328+8 * 0,q)]++ks.flatMap (acW 53 cs1 (tlOf 53 cs1 (bl++[q])) (dlOf 53 cs1 []) V)) cm (8 * 26)=0:=by
  refine (pub_rest h.sd.ds oM hA h96 (.inr oM) (fun e he=>?_) (fun k hk e he heq=>?_)).trans ((h.prep.fr.head _ oM).trans hj.bw.uid)
  ·simp at he
   subst he;show 3328 / 8≠_;omega
  ·obtain ⟨_,h2,_,h4,_⟩:=hA.at_ hk he
   have:=hdrAt_ge h2;omega
 have hbw:=hj.bw.keep hsd hc2 hg2 huid;have h2:=few_blk hp2;have hb2:bl.length≤2:=by
  have h3:=h.blen;split at h3 <;> omega
 have hver:VerA 10 (acC cs1 ks (tlOf 53 cs1 (bl++[q])) (dlOf 53 cs1 []) V) (rdG 0 cur1 ([(3328+8 * 0,q)]++ks.flatMap (acW 53 cs1 (tlOf 53 cs1 (bl++[q])) (dlOf 53 cs1 []) V)) cm) ⟨st,dl,q,bl,p⟩ (hdQ vl):=by
  obtain ⟨⟨k1,i1,g1,g2⟩,g3⟩:=pub_words (i:=0) (v:=q) (cm:=cm) h.sd.ds hA hks h96 (by decide) h.ver.2 (by simp) (by decide) (show [wSt st dl,bl.headD 0,older].length≤payW 0 from nL 3) h.ver.1;refine ⟨⟨k1,i1,g1,g2⟩,?_,h.blen,fun j hj'=>?_,hp,by show p.length≤2000;omega,hst⟩
  ·rw [← hold]
   exact g3
  ·obtain ⟨w1,w2⟩:=h.words j hj'
   obtain ⟨⟨k2,i2,q1,q2⟩,q3⟩:=pub_words (i:=0) (v:=q) (cm:=cm) h.sd.ds hA hks h96 (by decide) w2 (List.mem_append.2 (.inl (List.getElem_mem hj'))) (by decide) (by rw [payL_len,List.length_drop,bSize_cls];exact nL _) w1;refine ⟨⟨k2,i2,q1,?_⟩,q3⟩;rw [q2,bSize_cls,List.length_drop]
 refine ⟨⟨z.a,T1+800,z.x,z.y,_,_,N1+n1,_,z.b0,S3,_,z.A,z.n,z.c,al1⟩,hj.move hbw hc2 hg2 ⟨hver,hj.hist.keep hkeep,hlt⟩ hlink (h.cap.pub h.keep_ok (free:=[]) (fun q hq=>absurd hq (by simp))) h.room (by have:=h.tm;have:=hj.tm;omega) (by have:=h.nm;have:=hj.nm;rw [hn1,List.length_append];simp;omega),rfl,rfl,rfl,rfl,rfl,rfl,hch,hgr⟩
theorem AddB.chg_ {Z:Fp} (h:AddB k z st dl bl p older q w wA T1 N1 cs1 f1 S1 cur1 al1) (hj:HsJ w0 k gh rl vl z w) (hc:Chg Z wA wB) (hZ:∀ i,Z i→¬ S1 i∧w.heap.size≤i):AddB k z st dl bl p older q w wB T1 N1 cs1 f1 S1 cur1 al1 :=
 { h with sd:=h.sd.chg hj.bw.sd.lo hc hZ,chg:=h.chg.trans hc (fun i hi => .inr (hZ i hi).2) }
theorem AddA.dt_ok (h:AddA k z dl bl p w wA T1 N1 cs1 f1 S1 cur1 al1):dl=decide (bl.headD 0=0)∧bl.headD 0 < 18446744073709551616:=by
 have h1:=h.blen;cases hd:dl with
 | true =>
  rw [hd,if_pos rfl] at h1;rw [List.eq_nil_of_length_eq_zero h1];exact ⟨rfl,by decide⟩
 | false =>
  rw [hd,if_neg (by decide)] at h1;have h2:=nBlk_drop p;have h3:0 < bl.length:=oM;obtain ⟨_,g1⟩:=h.words 0 h3;rw [headD_get _ h3];exact ⟨(decide_eq_false g1.keep.nz.1).symm,g1.keep.nz.2⟩
theorem HsJ.chg_ {Z:Fp} (h:HsJ w0 k gh rl vl z w) (hc:Chg Z w w') (hZ:∀ i,Z i→¬ sfp z.S z.x i∧gh < i∧(0 < z.n→∀ ad,z.A=some ad→ad.block≠i)∧∀ r∈rl,(0 < r.nb→∀ ad,r.B=some ad→ad.block≠i)∧(0 < r.nd→∀ ad,r.D=some ad→ad.block≠i)):HsJ w0 k gh rl vl z w':=by
 obtain ⟨o1,o2,o3,o4⟩:=h.ord;have hs:=hc.size;have hg:∀ g,g≤gh→¬ Z g:=fun g hg hz=>by have:=(hZ g hz).2.1;omega
 have hsd:SD z.a 373 z.T 53 (32 * 10) 10 z.x z.cs z.f z.N z.m z.b0 z.S z.cur w' z.y.d z.y.r:=h.bw.sd.chg o1 hc (fun i hi=>⟨fun e=>(hZ i hi).1 (.inl e),Nat.le_of_lt (hZ i hi).2.1⟩);have hbw:BW z.a 373 z.T 10 z.x z.y z.cs z.f z.N z.m z.b0 z.S z.cur w':={ h.bw with sd:=hsd,blk:=hc.blk h.bw.blk (hg _ oM),und:=hc.blk h.bw.und (hg _ oM),mgr:=hc.blk h.bw.mgr (hg _ oM) }
 refine ⟨hbw,hc.blk h.blk (hg _ (nL _)),chg_reads3 hc h.rd (fun hn ad had hz=>(hZ _ hz).2.2.1 hn ad had rfl),h.cp,fun r hr=>?_,h.rne,h.offA.size hs,h.offg,h.hist,h.link,h.cap,h.room,h.tm,h.nm,h.old,h.ghl,h.ord,?_⟩
 ·obtain ⟨r1,r2,r3,r4,r5⟩:=h.rin r hr
  exact ⟨chg_reads3 hc r1 (fun hn ad had hz=>((hZ _ hz).2.2.2 r hr).1 hn ad had rfl),chg_reads3 hc r2 (fun hn ad had hz=>((hZ _ hz).2.2.2 r hr).2 hn ad had rfl),r3.size hs,r4.size hs,r5⟩
 ·exact h.below.trans (hc.toBelow h.below.size (fun i hi=>by have:=(hZ i hi).2.1;have:=h.ghl;omega))
structure RvIn (S:Fp) (x:HA) (w:World) (r:RV):Prop where
 rb:Reads w w.heap.size 1 r.B r.nb (uCells r.v.bl)
 rd:Reads w w.heap.size 1 r.D r.nd (u8s r.v.p)
 ob:OffA S x w r.B r.nb
 od:OffA S x w r.D r.nd
 cd:r.nd≤r.cd
theorem RvIn.move {S S':Fp} {x:HA} {r:RV} (h:RvIn S x w r) (hc:Chg (sfp S x) w w') (hg:Grew S S' w):RvIn S' x w' r :=
 ⟨chg_reads3 hc h.rb (fun hn ad had=>(h.ob hn ad had).2),chg_reads3 hc h.rd (fun hn ad had=>(h.od hn ad had).2),h.ob.grew hg hc.size,h.od.grew hg hc.size,h.cd⟩
theorem RvIn.chg {S Z:Fp} {x:HA} {r:RV} (h:RvIn S x w r) (hc:Chg Z w w') (hb:0 < r.nb→∀ ad,r.B=some ad→¬ Z ad.block) (hd:0 < r.nd→∀ ad,r.D=some ad→¬ Z ad.block):RvIn S x w' r :=
 ⟨chg_reads3 hc h.rb hb,chg_reads3 hc h.rd hd,h.ob.size hc.size,h.od.size hc.size,h.cd⟩
theorem HsJ.push {r:RV} {A':Option Addr} {n' c':Nat} (h:HsJ w0 k gh rl (r.v :: vvs rl) z w) (hr:RvIn z.S z.x w r) (hb:Below w.heap.size w w') (ho:w'.ownsRow w.heap.size 101 5 (.slice A' n' c') n' (rvCells (r :: rl))) (hrne:0 < r.nb→∀ ad,r.B=some ad→ad.block≠gh) (hrne2:0 < r.nd→∀ ad,r.D=some ad→ad.block≠gh) :
  HsJ w0 k gh (r :: rl) (vvs (r :: rl)) { z with A:=A',n:=n',c:=c' } (w'.setCell ⟨gh,1,none⟩ (.slice A' n' c')):=by
 have h1:=h.below_ hb;obtain ⟨o1,o2,o3,o4⟩:=h.ord;have hz:Chg (fun i=>i=gh) w' (w'.setCell ⟨gh,1,none⟩ (.slice A' n' c')):=(Chg.refl (fun i=>i=gh) w').setCell (p:=⟨gh,1,none⟩) (.inl rfl) _;have hown:=ho.lt;have hgl:=h.blk.lt;have hs:=hz.size;have hb1:=hb.size;have hsd:SD z.a 373 z.T 53 (32 * 10) 10 z.x z.cs z.f z.N z.m z.b0 z.S z.cur (w'.setCell ⟨gh,1,none⟩ (.slice A' n' c')) z.y.d z.y.r:=h1.bw.sd.chg o1 hz (fun i hi=>by
  have e:i=gh:=hi;subst e;exact ⟨fun e=>h1.offg (.inl e),nL _⟩)
 have hbw:BW z.a 373 z.T 10 z.x z.y z.cs z.f z.N z.m z.b0 z.S z.cur (w'.setCell ⟨gh,1,none⟩ (.slice A' n' c')):={ h1.bw with sd:=hsd,blk:=hz.blk h1.bw.blk (by show ¬ z.y.g=gh;omega),und:=hz.blk h1.bw.und (by show ¬ z.y.u=gh;omega),mgr:=hz.blk h1.bw.mgr (by show ¬ z.y.m=gh;omega) }
 refine ⟨hbw,h1.blk.set_ 1 _,?_,(own_cap ho).1,fun u hu=>?_,fun u hu=>?_,fun hn ad had=>?_,h1.offg,h1.hist,h1.link,h1.cap,h1.room,h1.tm,h1.nm,h1.old,h1.ghl,h1.ord,?_⟩
 ·refine (hz.reads (Reads.of_own ho) (nL _) (fun ad had e=>?_)).more hs
  have:=hown ad.block (by rw [had];rfl);omega
 ·rcases List.mem_cons.1 hu with e | e
  ·subst e
   have h2:=(hr.move (Chg.of_below hb) (Grew.refl _ _)).chg hz hrne hrne2;exact ⟨h2.rb,h2.rd,h2.ob,h2.od,h2.cd⟩
  ·obtain ⟨r1,r2,r3,r4,r5⟩:=h1.rin u e
   exact ⟨chg_reads3 hz r1 (h1.rne u e).1,chg_reads3 hz r2 (h1.rne u e).2,r3.size hs,r4.size hs,r5⟩
 ·rcases List.mem_cons.1 hu with e | e
  ·subst e
   exact ⟨hrne,hrne2⟩
  ·exact h1.rne u e
 ·have had':A'=some ad:=had
  have h2:=hown ad.block (by rw [had'];rfl);exact ⟨oM,fun e=>by have:=sfp_lt h.bw.sd e;omega⟩
 ·exact h1.below.trans (hz.toBelow h1.below.size (fun i hi=>by have e:i=gh:=hi;have:=h1.ghl;omega))
end
end
section
open Go.RowKit Go.Maps
theorem HistA.desc {K:Nat} {cs:Nat→CS} {cur:Nat→Nat}:∀ {rl:List RV},HistA K cs cur (vvs rl)→Desc rl
 | [],_,i,h=>absurd h (Nat.not_lt_zero _)
 | [r],_,i,h=>absurd h (by simp)
 | r :: r2 :: t,hh,0,_=>hh.2.2 r2.v (by simp [vvs])
 | r :: r2 :: t,hh,i+1,h=>HistA.desc (rl:=r2 :: t) hh.2.1 i (by simpa using h)
end
section
open Go.ChangeShapes Go.WideShapes Go.ChangeAt Go.RowKit
theorem cellsBool:Tryz.prog.cellsOf 4=1:=by kernel_rfl
theorem cellsBytes:Tryz.prog.cellsOf 24=1:=by kernel_rfl
theorem cellsDr:Tryz.prog.cellsOf 229=3:=by kernel_rfl
theorem cells3 {cs:List Value} {v0 v1 v2:Value} (hl:cs.length=3) (d0:cs[0]?=some v0) (d1:cs[1]?=some v1) (d2:cs[2]?=some v2):cs=[v0,v1,v2]:=by
 match cs,hl with
 | [a0,a1,a2],_ =>
  simp at d0 d1 d2;subst d0 d1 d2;rfl
section
variable {H:Type} {enc:TypeId × Value→H} {w:World} {base:Nat} {sp:Nat→Bool} {held:Bool} {fuel:Nat} {x:DataW H × List MemPlace}
theorem open_dr {cs:List Value} (h:DataW.trod enc Tryz.prog w base sp held fuel 229 cs=some x):∃ r:DR,cs=r.cells∧r.In w:=by
 obtain ⟨xs,n,_,_,hlen,hxl,hf⟩:=DataW.trod_struct Tryz.underlying229 h;have hx3:xs.length=3:=hxl;have get:∀ j,j < 3→∃ y,xs[j]?=some y:=fun j hj=>⟨xs[j],List.getElem?_eq_getElem oM⟩
 obtain ⟨y0,e0⟩:=get 0 oM;obtain ⟨y1,e1⟩:=get 1 oM;obtain ⟨y2,e2⟩:=get 2 oM;obtain ⟨a0,c0,_,b0⟩:=DataW.trod_int Tryz.underlying5 ((hf 0 _ rfl).trans e0);obtain ⟨a1,c1,_⟩:=DataW.trod_bool Tryz.underlying4 ((hf 1 _ rfl).trans e1);have g2:=(hf 2 _ rfl).trans e2;change (cs.drop 0).take (Tryz.prog.cellsOf 5)=_ at c0;change (cs.drop 1).take (Tryz.prog.cellsOf 4)=_ at c1;change DataW.trod _ _ _ _ _ _ _ 24 ((cs.drop 2).take (Tryz.prog.cellsOf 24))=_ at g2;rw [cellsU8] at c0;rw [cellsBool] at c1;rw [cellsBytes] at g2;obtain ⟨k0,rfl,l0⟩:=wf_u8 b0;have hl3:cs.length=3:=hlen.trans cellsDr;have h2:∃ A n c,cs[2]?=some (.slice A n c)∧(cs.drop 2).take 1=[.slice A n c]:=by
  have e3:(cs.drop 2).take 1=[cs[2]'oM]:=by
   match cs,hl3 with
   | [a,b,c],_=>rfl
  rcases Go.Deep.open_slice Tryz.underlying24 g2 with ⟨hcs,_⟩ | ⟨a,len,cap,m,n,D,Pl,hcs,_⟩
  ·exact ⟨none,0,0,one_at hcs,hcs⟩
  ·exact ⟨some a,len,cap,one_at hcs,hcs⟩
 obtain ⟨A,n2,c2,h3,h4⟩:=h2;rw [h4] at g2;obtain ⟨l,hl⟩:=bytes_of (a:=A) (len:=n2) (cap:=c2) (d:=y2.1) (p:=y2.2) ⟨_,g2⟩;exact ⟨⟨k0,a1,A,n2,c2,l⟩,cells3 hl3 (one_at c0) (one_at c1) h3,hl.r,hl.b,hl.le,hl.cap,l0⟩
end
def DrsIs (w:World) (v:Value):Prop:=∃ (A:Option Addr) (n c:Nat) (l:List DR),v = .slice A n c∧DrsIn w A n c l
section
variable {H:Type} {enc:TypeId × Value→H} {W:World} {b0 base:Nat} {sp:Nat→Bool} {held:Bool} {v:Value} {d:DataW H} {p:List MemPlace} {r:Reach}
theorem drs_of (hv:Value.okWide Tryz.prog W r b0 87 v) (h:DataW.Trod enc Tryz.prog W base sp held 87 v d p):DrsIs W v:=by
 obtain ⟨fuel,hf⟩:=h;obtain ⟨a0,n0,k0,rfl⟩:=okWide_slice Tryz.underlying87 hv;have hcv:(Value.slice a0 n0 k0).cells.toList=[.slice a0 n0 k0]:=rfl;rw [hcv] at hf;rcases Go.Deep.open_slice Tryz.underlying87 hf with ⟨hcs,_⟩ | ⟨a,len,cap,m,n,D,Pl,hcs,hb,hl,hm,hmm,hx,hi⟩
 ·obtain hcs:Value.slice a0 n0 k0 = .slice none 0 0:=by simpa using hcs
  rw [hcs];exact ⟨none,0,0,[],rfl,⟨rfl,fun h=>absurd h oM⟩,nL _,Nat.zero_le _,fun _ h=>by cases h⟩
 ·obtain hcs:Value.slice a0 n0 k0 = .slice (some a) len cap:=by simpa using hcs
  rw [hcs];have hlm:len≤m:=by rw [hmm];split <;> omega
  obtain ⟨l,h1,h2,h3,h4⟩:=reads_elems DR.cells 3 oM (fun _=>rfl) W a (DR.In W) len (fun i hil=>by
   obtain ⟨cs',hc,ht'⟩:=hi i oM;rw [cellsDr] at hc;obtain ⟨e,rfl,ho⟩:=open_dr ht';obtain ⟨_,hcl,hat⟩:=World.cells?_some hc;exact ⟨e,ho,fun j hj=>by rw [← Go.Deep.add_add];exact hat j hj⟩)
  refine ⟨some a,len,cap,l,rfl,⟨h3,fun hpos=>⟨a,rfl,?_,h4⟩⟩,hl,hm,h2⟩;have hl9:0 < (l.flatMap DR.cells).length:=by rw [h3];omega
  have:=World.block_lt_of_cell? _ _ (h4 0 _ (List.getElem?_eq_getElem hl9));rw [block_of_add] at this;exact this
end
end
section
open Go.RowKit Go.Maps
theorem hist_at {K:Nat} {cs:Nat→CS} {cur:Nat→Nat}:∀ {rl:List RV},HistA K cs cur (vvs rl)→∀ i (h:i < rl.length),VerA K cs cur (rl[i]).v (hdQ (vvs (rl.drop (i+1))))
 | r :: t,hh,0,_=>hh.1
 | r :: t,hh,i+1,h=>hist_at (rl:=t) hh.2.1 i (by simpa using h)
theorem hdQ_drop (rl:List RV) (i:Nat):hdQ (vvs (rl.drop i))=((rl[i]?).map fun r=>r.v.q).getD 0:=by
 cases h:rl[i]? with
 | none =>
  have h1:=List.getElem?_eq_none_iff.1 h;rw [List.drop_of_length_le h1];rfl
 | some r =>
  obtain ⟨h1,h2⟩:=List.getElem?_eq_some_iff.1 h;rw [List.drop_eq_getElem_cons h1,h2];rfl
section
variable {w0 w:World} {k gh:Nat} {rl:List RV} {z:HP}
theorem same_any (hj:HsJ w0 k gh rl (vvs rl) z w) (i:Nat) (hi:i < rl.length) (st:Nat) (dl:Bool) (dt ol:Nat) (hk:rl.length≤1000) (h1:st=(rl[i]).v.st) (h2:dl=(rl[i]).v.dl) (h3:dt=(rl[i]).v.dt) (h4:ol=hdQ (vvs (rl.drop (i+1)))) :
  Calls Tryz.prog 42 #[.pointer (some ⟨gh,0,none⟩),vAgg st dl dt ol, .int .i64 (i:Int)] w fun e w'=>e = .returned (.bool true)∧Below w.heap.size w w':=by
 have hl:=rv_len hj.rd;obtain ⟨W1,hW1⟩:∃ W1,w.alloc (.cells #[.int .u64 (st:Int), .bool dl, .int .u64 (dt:Int), .int .u64 (ol:Int)] 97)=W1:=⟨_,rfl⟩
 have hbx:=Blk.new w 97 #[.int .u64 (st:Int), .bool dl, .int .u64 (dt:Int), .int .u64 (ol:Int)];have hB1:Below w.heap.size w (w.alloc (.cells #[.int .u64 (st:Int), .bool dl, .int .u64 (dt:Int), .int .u64 (ol:Int)] 97)):=(Below.refl _ _).alloc (nL _) _;rw [hW1] at hbx hB1;have hj1:=hj.below_ hB1;obtain ⟨hil,gb,go,hA3,hgb,f0,f1,f2,f3,f4⟩:=rv_facts hj1.rd (k:=i) oM;have hv:=hist_at hj.hist i hi;have hdtz:=hv.dtz;have b1:W1.cell? ⟨gh,1,none⟩=some (.slice z.A z.n z.c):=hj1.blk.cell 1;obtain ⟨An,hAn⟩:∃ An,z.A=An:=⟨_,rfl⟩
 obtain ⟨n,hn⟩:∃ n,z.n=n:=⟨_,rfl⟩
 obtain ⟨c,hc⟩:∃ c,z.c=c:=⟨_,rfl⟩
 rw [hAn,hn,hc] at b1;rw [hn] at hl;rw [hAn] at hA3;have HNx:Hid ((i+1 < n∧W1.cell? ⟨gb,go+(i+1) * 5+2,none⟩=some (.int .u64 (ol:Int)))∨(¬ i+1 < n∧ol=0)):=hid (by
  by_cases h5:i+1 < n
  ·obtain ⟨hil',gb',go',hA3',_,_,_,e2,_⟩:=rv_facts hj1.rd (k:=i+1) oM
   rw [hAn,hA3] at hA3';injection hA3' with e1
   injection e1 with e1 e3
   subst e1 e3;refine .inl ⟨h5,?_⟩;rw [h4,hdQ_drop,List.getElem?_eq_getElem hil'];exact e2
  ·refine .inr ⟨h5,?_⟩
   rw [h4,hdQ_drop,List.getElem?_eq_none oM];rfl)
 have HDt:Hid (dl=false→∃ db dof:Nat,(rl[i]).B=some ⟨db,dof,none⟩∧0 < (rl[i]).nb∧db < W1.heap.size∧W1.cell? ⟨db,dof,none⟩=some (.int .u64 (dt:Int))):=hid (fun hdl=>by
  have h5:=hv.blen;rw [← h2,hdl,if_neg (by decide)] at h5;have h6:=nBlk_drop (rl[i]).v.p;obtain ⟨r1,_⟩:=hj1.rin (rl[i]) (List.getElem_mem hi);have h7:(rl[i]).v.bl.length=(rl[i]).nb:=by have:=r1.1;simpa [uCells] using this
  obtain ⟨hl0,db,dof,e1,e2,e3⟩:=u_facts r1 (k:=0) oM;refine ⟨db,dof,e1,oM,e2,?_⟩;rw [Nat.add_zero] at e3;have e0:(rl[i]).v.dt=(rl[i]).v.bl[0]:=by
   exact headD_get _ hl0
  rw [h3,e0];exact e3)
 have HDz:Hid (dl=true→dt=0):=hid (fun hdl=>by
  rw [← h2,hdl,← h3] at hdtz;exact of_decide_eq_true hdtz.symm)
 rw [← h1] at f0;rw [← h2] at f1;generalize rl[i]=r at *;obtain ⟨v,B,nb,cb,D,nd,cd⟩:=r;dsimp only at f0 f1 f2 f3 f4 HDt;generalize v.q=q at *;subst hA3;have v0:=hbx;have HW1:=hid hW1;have HB1:=hid hB1;have HK1:=hid hbx;have hghl:gh < w.heap.size:=hj.blk.lt;clear hv hdtz h1 h2 h3 h4 hj hj1 hbx hB1 hW1 v0 hAn hc;have hz0:(0:Int)≤(i:Int):=oM;have hz1:(i:Int) < (n:Int):=oM;unfold vAgg;obtain ⟨W2,hW2⟩:∃ W2,W1.alloc (.cells #[.int .u64 (st:Int), .bool dl, .int .u64 (q:Int), .slice B nb cb, .slice D nd cd] 101)=W2:=⟨_,rfl⟩
 have hb2:=Blk.new W1 101 #[.int .u64 (st:Int), .bool dl, .int .u64 (q:Int), .slice B nb cb, .slice D nd cd];have hB2:Below W1.heap.size W1 (W1.alloc (.cells #[.int .u64 (st:Int), .bool dl, .int .u64 (q:Int), .slice B nb cb, .slice D nd cd] 101)):=(Below.refl _ _).alloc (nL _) _;go_enter Tryz.func42,Tryz.ntmps42
 go_upto_region 1 with fail
 rw [HW1.out];rw [hW2] at hb2 hB2;have HW2:=hid hW2;have g0:W2.cell? ⟨W1.heap.size,0,none⟩=some (.int .u64 (st:Int)):=hb2.cell 0;have g1:W2.cell? ⟨W1.heap.size,1,none⟩=some (.bool dl):=hb2.cell 1;have g3:W2.cell? ⟨W1.heap.size,3,none⟩=some (.slice B nb cb):=hb2.cell 3;have hv2:=HK1.out.below hB2 HK1.out.lt;have v0:W2.cell? ⟨w.heap.size,0,none⟩=some (.int .u64 (st:Int)):=hv2.cell 0;have v1:W2.cell? ⟨w.heap.size,1,none⟩=some (.bool dl):=hv2.cell 1;have v2:W2.cell? ⟨w.heap.size,2,none⟩=some (.int .u64 (dt:Int)):=hv2.cell 2;have v3:W2.cell? ⟨w.heap.size,3,none⟩=some (.int .u64 (ol:Int)):=hv2.cell 3;have hgl:gh < W1.heap.size:=Nat.lt_of_lt_of_le hghl HB1.out.size;have b2:W2.cell? ⟨gh,1,none⟩=some (.slice (some ⟨gb,go,none⟩) n c):=by
  rw [← b1];exact hB2.cell (p:=⟨gh,1,none⟩) hgl
 have HB2:=hid (HB1.out.trans (hB2.mono HB1.out.size));have HN2:Hid ((i+1 < n∧W2.cell? ⟨gb,go+(i+1) * 5+2,none⟩=some (.int .u64 (ol:Int)))∨(¬ i+1 < n∧ol=0)):=hid (HNx.out.imp (fun h=>⟨h.1,by rw [← h.2];exact hB2.cell (p:=⟨gb,go+(i+1) * 5+2,none⟩) hgb⟩) id);have HD2:Hid (dl=false→∃ db dof:Nat,B=some ⟨db,dof,none⟩∧0 < nb∧W2.cell? ⟨db,dof,none⟩=some (.int .u64 (dt:Int))):=hid (fun h=>by
  obtain ⟨db,dof,e1,e2,e3,e4⟩:=HDt.out h;refine ⟨db,dof,e1,e2,?_⟩;rw [← e4];exact hB2.cell (p:=⟨db,dof,none⟩) e3)
 have hneq:wrap64 ((i:Int)+1)=(i:Int)+1:=by rw [IntWalk.wrap64_in _ oM]
 clear hb2 hB2 hv2 hgl hW2 HDt HNx;go_upto_region 2 with fail
 rw [HW2.out];clear f0 f1 f2 f3 f4 b1;go_upto_if 24 with fail
 go_cut [8] from 25 to 33 (fun v wx=>v = .int .u64 (ol:Int)∧Hid (wx=W2))
 case first =>
  rcases HN2.out with ⟨h5,h6⟩ | ⟨h5,h6⟩
  ·have d1:(i:Int)+1 < (n:Int):=oM
   have d2:(0:Int)≤(i:Int)+1:=oM;have d3:((i:Int)+1).toNat=i+1:=oM;go_wp2_with fail
   go_meet;exact ⟨rfl,hid rfl⟩
  ·have d1:¬ (i:Int)+1 < (n:Int):=oM
   subst h6;go_wp2_with fail
   go_meet;exact ⟨rfl,hid rfl⟩
 case rest =>
  obtain ⟨rfl,hwc⟩:=hcut;have hw:=hwc.out.symm;subst hw;clear hwc HN2;cases dl
  ·obtain ⟨db,dof,rfl,hnb,hdc⟩:=HD2.out rfl
   have d1:(0:Int) < (nb:Int):=oM;go_wp2;go_ret;exact ⟨by simp,HB2.out⟩
  ·have hdt:=HDz.out rfl
   subst hdt;go_wp2;go_ret;exact ⟨by simp,HB2.out⟩
end
end
end Go.Proofs.YtfkjjoglnmeciaaGreatDoor

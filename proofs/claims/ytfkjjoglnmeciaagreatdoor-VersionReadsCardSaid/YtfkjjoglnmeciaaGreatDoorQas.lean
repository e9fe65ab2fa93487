/- The walks and laws that the claim leans on, part 19. -/
import Derived.Test.YtfkjjoglnmeciaaGreatDoorQan
import Derived.Test.YtfkjjoglnmeciaaGreatDoorQaq
import Derived.Laws.CopyOwn
set_option maxRecDepth 100000
set_option maxHeartbeats 16000000
namespace Go.Proofs.YtfkjjoglnmeciaaGreatDoor
open Go.Lib (hid)
section
open Go.RowKit
structure Still (a:DA) (L:Nat) (cur:Nat→Nat) (w:World):Prop where
 dev:∃ exe,Blk w a.d 158 (devCells a L exe)
 per:Blk w a.pb 32 (uA ((List.range (8 * L)).map cur))
 lin:∃ ls,Blk w a.lb 298 ls∧∀ i,i < L→∃ A c,ls[i * 2+1]?=some (.slice A 0 c)
 hL:L≤4096
theorem still_of {a:DA} {L T:Nat} {w:World} {S:Fp} {cur:Nat→Nat} {D N:Nat→Prop} {F:Nat} (h:DevM a L T w S cur D N F) (hD:∀ k,¬ D k):Still a L cur w:=by
 obtain ⟨s,exe,per,cs,ls,hc,_,hcl⟩:=h;have hws:∀ i,i < L→s.ws i=[]:=fun i hi=>by
  rw [List.eq_nil_iff_forall_not_mem];intro e he;have h1:=hc.lin i hi e he;have h2:=hcl (e.1 / 8) oM (hD _) e;rw [show e.1 / 8 / 8=i by omega] at h2;exact h2 he rfl
 refine ⟨⟨exe,hc.dev⟩,?_,⟨ls,hc.linB,fun i hi=>?_⟩,hc.hL⟩
 ·have e:per=uA ((List.range (8 * L)).map cur):=by
   apply Array.ext_getElem?;intro i;by_cases hi:i < 8 * L
   ·have h1:=hc.link i hi
    rw [hws (i / 8) oM] at h1;have h1:s.pw i=cur i:=h1;rw [hc.pv i hi,uA_at (by simpa using hi),h1];simp
   ·rw [Array.getElem?_eq_none (by rw [hc.perS];omega),Array.getElem?_eq_none (by simp [uA,uCells];omega)]
  rw [← e];exact hc.perB
 ·rw [hc.linH i hi]
  have ho:=hc.own i hi;have hx:=hc.hx i hi;rw [hws i hi] at hx;have hm:s.m i=0:=by
   have h1:=ho.1;rw [hx] at h1;simp [wrCells] at h1;omega
  rcases ho.2 with ⟨h1,_⟩ | ⟨g,cap,cur,h1,_⟩
  ·exact ⟨_,_,by rw [h1]⟩
  ·exact ⟨_,_,by rw [h1,hm]⟩
theorem Still.below {a:DA} {L:Nat} {w w':World} {cur:Nat→Nat} (h:Still a L cur w) (hb:Below w.heap.size w w'):Still a L cur w':=by
 obtain ⟨⟨exe,h1⟩,h2,⟨ls,h3,h4⟩,h5⟩:=h;exact ⟨⟨exe,h1.below hb h1.lt⟩,h2.below hb h2.lt,⟨ls,h3.below hb h3.lt,h4⟩,h5⟩
theorem dirty_still {a:DA} {L:Nat} {w:World} {cur:Nat→Nat} (h:Still a L cur w) :
  Calls Tryz.prog 191 #[.pointer (some ⟨a.d,0,none⟩)] w fun e w'=>e = .returned (.slice none 0 0)∧w=w':=by
 obtain ⟨⟨exe,h1⟩,_,⟨ls,h3,h4⟩,h5⟩:=h;have f2:w.cell? ⟨a.d,2,none⟩=some (.slice (some ⟨a.lb,0,none⟩) L L):=h1.cell 2;have HL:=hid h3;have H4:=hid h4;generalize a.lb=lb at *;clear h1 h3 h4;go_enter Tryz.func191,Tryz.ntmps191
 go_wp2;go_loopw [3,12] (fun v3 i wr=>∃ k:Nat,k≤L∧v3 = .slice none 0 0∧i = .int .i64 (k:Int)∧w=wr) (fun _ i _=>L - (Go.RowKit.intOf i).toNat)
 case atStart=>exact ⟨0,Nat.zero_le _,rfl,rfl,rfl⟩
 case round =>
  obtain ⟨k,hk,rfl,rfl,rfl⟩:=hrel;by_cases hlt:k < L
  ·obtain ⟨A,c,e⟩:=H4.out k hlt
   have f3:w.cell? ⟨lb,k * 2+1,none⟩=some (.slice A 0 c):=by rw [HL.out.cell];exact e
   have hz5:(0:Int)≤(k:Int):=oM;have hz6:(k:Int) < (L:Int):=oM;clear e;go_wp2;go_roundw
   case rel =>
    first
     | exact ⟨k+1,oM,rfl,by go_num,trivial⟩
     | exact ⟨k+1,oM,rfl,by go_num,rfl⟩
     | (
       repeat apply Exists.intro
       refine ⟨?_,rfl⟩;exact ⟨k+1,oM,rfl,by go_num,rfl⟩)
   case measure=>simp [Go.RowKit.intOf];omega
  ·obtain rfl:L=k:=oM
   go_wp2;go_ret;exact ⟨rfl,rfl⟩
def RetByo (w:World) (l:List Nat) (e:Ending) (w':World):Prop:=∃ g,e = .returned (.slice (some ⟨g,0,none⟩) l.length l.length)∧Reads w' w'.heap.size 1 (some ⟨g,0,none⟩) l.length (u8s l)∧Below w.heap.size w w'
theorem bytesOf_any (A:Option Addr) (q c n:Nat) (xs:List Nat) (w:World) (h:Reads w w.heap.size 1 A q (uCells xs)) (hx:∀ x∈xs,x < 18446744073709551616) (hn:n=8 * q) (hq:q≤100000) :
  Calls Tryz.prog 193 #[.slice A q c] w (RetByo w (unpB xs n)):=by
 have hl0:xs.length=q:=by have:=h.1;simp [uCells] at this;omega
 have HR:=hid h;have HX:=hid hx;have hmk:=makeB n oM;have hq8:n≤8 * q:=oM;have u1:wrap64 ((q:Int) * 8)=(n:Int):=by rw [IntWalk.wrap64_in _ oM];omega
 have u2:IntKind.i64.wrap ((q:Int) * 8)=(n:Int):=by rw [IntKind.wrap_i64];omega
 have u3:(q:Int) * 8=(n:Int):=oM;have hn9:n≤800000:=oM;clear h hx hl0 hn;go_enter Tryz.func193,Tryz.ntmps193
 go_wp2;go_loopw [11] (fun i wr=>∃ k:Nat,k≤n∧i = .int .i64 (k:Int)∧Hid (∃ cs,Blk wr w.heap.size 5 cs∧cs.size=n∧∀ j,j < k→cs[j]?=some (.int .u8 ((xs.getD (j / 8) 0 / 256 ^ (j % 8) % 256:Nat):Int)))∧Hid (Below w.heap.size w wr)) (fun i _=>n - (Go.RowKit.intOf i).toNat)
 case atStart =>
  exact ⟨0,Nat.zero_le _,rfl,hid ⟨_,Blk.new w _ _,size_madeCells _ _,fun j hj=>absurd hj oM⟩,hid ((Below.refl _ _).alloc (nL _) _)⟩
 case round =>
  obtain ⟨k,hk,rfl,HC,HB⟩:=hrel;by_cases hlt:k < n
  ·have hkq:k / 8 < q:=oM
   obtain ⟨hl,b,off,hA,hbB,f0⟩:=u_facts (HR.out.below HB.out) hkq;subst hA;obtain ⟨cs,hB,hsz,hcs⟩:=HC.out;have e:xs.getD (k / 8) 0=xs[k / 8]:=by rw [List.getD_eq_getElem?_getD,List.getElem?_eq_getElem hl];rfl
   have hx64:=HX.out _ (List.getElem_mem hl);rw [← e] at f0 hx64;have e2:(((xs.getD (k / 8) 0:Nat):Int) / 2 ^ (k % 8 * 8)) % 256=((xs.getD (k / 8) 0 / 256 ^ (k % 8) % 256:Nat):Int):=by
    rw [show (256:Nat) ^ (k % 8)=2 ^ (k % 8 * 8) by rw [show (256:Nat)=2 ^ 8 by decide,← Nat.pow_mul,Nat.mul_comm 8 (k % 8)]];push_cast;rfl
   have hc0:k < cs.size:=oM;have HN:Hid (∃ cs',Blk (wr.setCell ⟨w.heap.size,k,none⟩ (.int .u8 ((xs.getD (k / 8) 0 / 256 ^ (k % 8) % 256:Nat):Int))) w.heap.size 5 cs'∧cs'.size=n∧∀ j,j < k+1→cs'[j]?=some (.int .u8 ((xs.getD (j / 8) 0 / 256 ^ (j % 8) % 256:Nat):Int))):=hid ⟨_,hB.set_ k _,by simp [hsz],fun j hj=>by
    rw [Array.getElem?_setIfInBounds];by_cases e:k=j
    ·subst e
     simp [hc0]
    ·rw [if_neg e,hcs j oM]⟩
   have HB2:Hid (Below w.heap.size w (wr.setCell ⟨w.heap.size,k,none⟩ (.int .u8 ((xs.getD (k / 8) 0 / 256 ^ (k % 8) % 256:Nat):Int)))):=hid (HB.out.setCell (nL _) _);have f1:wr.cell? ⟨w.heap.size,k,none⟩=some cs[k]:=by rw [hB.cell,Array.getElem?_eq_getElem hc0]
   have z1:wr.frozen? ⟨w.heap.size,k,none⟩=false:=hB.frozen _;have HE2:=hid e2;clear e hcs HC hbB hB e2;generalize cs[k]=ck at *;generalize xs.getD (k / 8) 0=z at *;generalize z / 256 ^ (k % 8) % 256=r at *;have hz5:(0:Int)≤(k:Int):=oM;have hz6:(k:Int) < (n:Int):=oM;have hz7:(k:Int) / 8 < (q:Int):=oM;go_wp2;go_roundw
   case rel =>
    first
     | (
       refine ⟨k+1,oM,by go_num,?_,?_⟩
       ·rw [HE2.out];exact HN
       ·rw [HE2.out];exact HB2)
     | (
       repeat apply Exists.intro
       refine ⟨?_,rfl⟩;refine ⟨k+1,oM,by go_num,?_,?_⟩
       ·rw [HE2.out];exact HN
       ·rw [HE2.out];exact HB2)
   case measure=>simp [Go.RowKit.intOf];omega
  ·have hkn:k=n:=oM
   have HF:Hid (RetByo w (unpB xs n) (.returned (.slice (some ⟨w.heap.size,0,none⟩) n n)) wr):=hid (by
    obtain ⟨cs,hB,hsz,hcs⟩:=HC.out;refine ⟨w.heap.size,by rw [unpB_len],reads_of_blk hB ?_ ?_,HB.out⟩
    ·simp [u8s,unpB_len]
    ·intro j u hu
     have hj:j < n:=by
      have h1:=(List.getElem?_eq_some_iff.1 hu).1;simp [u8s,unpB_len] at h1;omega
     rw [hcs j oM,← hu];simp [u8s,unpB,hj])
   have hd1:decide ((k:Int) < (n:Int))=false:=dF;have hd2:decide (k < n)=false:=decide_eq_false hlt;clear hkn hlt hk HC;go_wp2;go_ret;exact HF.out
end
section
open Go.RowKit
theorem lev_wbN (x:Nat):∀ j,lev (wb x j)=x % 256 ^ j
 | 0=>by simp [wb,lev,Nat.mod_one]
 | j+1=>by rw [wb_succ,lev_snoc,lev_wbN x j,show (wb x j).length=j by simp [wb],Nat.pow_succ,Nat.mod_mul]
theorem pack_unp {xs:List Nat} (hx:∀ x∈xs,x < 18446744073709551616):packW (unpB xs (8 * xs.length))=xs:=by
 apply List.ext_getElem
 ·simp [packW,unpB_len];omega
 ·intro j h1 h2
  have e:((unpB xs (8 * xs.length)).drop (8 * j)).take 8=wb xs[j] 8:=by
   apply List.ext_getElem
   ·simp [unpB_len,wb];omega
   ·intro i h3 h4
    have hi:i < 8:=by simpa [wb] using h4
    rw [List.getElem_take,List.getElem_drop];simp only [unpB,wb,List.getElem_map,List.getElem_range];rw [show (8 * j+i) / 8=j by omega,show (8 * j+i) % 8=i by omega,List.getD_eq_getElem?_getD,List.getElem?_eq_getElem h2];rfl
  simp only [packW,List.getElem_map,List.getElem_range];rw [e,lev_wbN,Nat.mod_eq_of_lt (Nat.lt_of_lt_of_le (hx _ (List.getElem_mem h2)) (by decide))]
def RetFrm (w:World) (L:Nat) (D:Nat→Prop) (cur:Nat→Nat) (e:Ending) (w':World):Prop:=RetNew w L D (fun d => .tuple #[.pointer (some ⟨d,0,none⟩), .int .i64 0]) cur e w'
theorem from_any (D:Nat→Prop) (g L:Nat) (p:List Nat) (w:World) (h:Reads w w.heap.size 1 (some ⟨g,0,none⟩) (64 * L) (u8s p)) (hp:∀ b∈p,b < 256) (h0:0 < L) (hL:L≤4096) :
  Calls Tryz.prog 93 #[.slice (some ⟨g,0,none⟩) (64 * L) (64 * L)] w (RetFrm w L D (fun k=>(packW p).getD k 0)):=by
 obtain ⟨q,hq⟩:∃ q,8 * L=q:=⟨_,rfl⟩
 obtain ⟨n,hn⟩:∃ n,64 * L=n:=⟨_,rfl⟩
 have hl0:p.length=64 * L:=by have:=h.1;simp [u8s] at this;omega
 have hpk:(packW p).length=8 * L:=by simp [packW,hl0];omega
 have HO:Hid (∀ wx cs,Blk wx w.heap.size 32 cs→cs.size=8 * L→(∀ j,j < 8 * L→cs[j]?=some (.int .u64 (pkW p (64 * L) j:Int)))→Below w.heap.size w wx→Calls Tryz.prog 168 #[.slice (some ⟨w.heap.size,0,none⟩) (8 * L) (8 * L)] wx fun e w'=>∃ d:Nat,e = .returned (.pointer (some ⟨d,0,none⟩))∧RetFrm w L D (fun k=>(packW p).getD k 0) (.returned (.tuple #[.pointer (some ⟨d,0,none⟩), .int .i64 0])) w'):=hid (fun wx cs hB hsz hcs hb=>by
  have hru:RowU cs (packW p):=⟨by rw [hpk,hsz];exact nL _,fun i hi=>by
   rw [hcs i oM,← hl0,pkW_end];simp only [packW,List.getElem_map,List.getElem_range]⟩
  have hr:Reads wx wx.heap.size 1 (some ⟨w.heap.size,0,none⟩) (8 * L) (uCells (packW p)):=reads_of_blk hB (by simp [uCells,hpk]) (fun j u hu=>by
   have hj:j < (packW p).length:=by
    have h1:=(List.getElem?_eq_some_iff.1 hu).1;simpa [uCells] using h1
   rw [hru.2 j hj,← hu];simp [uCells,hj])
  refine (of_any w.heap.size L (packW p) hL h0 wx hr).mono ?_;rintro e w1 ⟨d,cb,cc,lb,cs1,ls,th,nt,rfl,h1,h2,h3,h4,h5,h6,h7,h8⟩;exact ⟨d,rfl,dev_of (w0:=w) D (fun d => .tuple #[.pointer (some ⟨d,0,none⟩), .int .i64 0]) hL (nL _) hB hsz hru hpk hb h1 h2 h3 h4 h5 h6 h7 h8⟩)
 have HR:=hid h;have HP:=hid hp;have HL:=hid hl0;have hmk:=makeU q oM;have hz1:(n:Int) % 64=0:=oM;have hz2:(n:Int) / 64=(L:Int):=oM;have hz3:(n:Int) / 8=(q:Int):=oM;have hz4:((n:Int) == 0)=false:=by rw [beq_eq_false_iff_ne];omega
 have hz7:(L:Int)≤4096:=oM;have hq8:n≤8 * q∧8 * q≤n:=oM;rw [hn] at HL HR HO;rw [hq] at HO;rw [hn];have hql:q≤40000:=oM;clear h hp hl0 hpk hq hn;go_enter Tryz.func93,Tryz.ntmps93
 go_wp2_with fail
 go_loopw [26] (fun i wr=>∃ k:Nat,k≤n∧i = .int .i64 (k:Int)∧Hid (∃ cs,Blk wr w.heap.size 32 cs∧cs.size=q∧∀ j,j < q→cs[j]?=some (.int .u64 (pkW p k j:Int)))∧Hid (Below w.heap.size w wr)) (fun i _=>n - (Go.RowKit.intOf i).toNat)
 case atStart =>
  refine ⟨0,Nat.zero_le _,rfl,hid ⟨_,Blk.new w _ _,madeU_size q,fun j hj=>?_⟩,hid ((Below.refl _ _).alloc (nL _) _)⟩;rw [madeU_at q j hj,pkW_zero];rfl
 case round =>
  obtain ⟨k,hk,rfl,HC,HB⟩:=hrel;by_cases hlt:k < n
  ·obtain ⟨hl,b,off,hA,hbB,f0⟩:=b_facts (HR.out.below HB.out) hlt
   injection hA with hA
   injection hA with hA1 hA2 _
   subst hA1;subst hA2;rw [Nat.zero_add] at f0;obtain ⟨cs,hB,hsz,hcs⟩:=HC.out;have hkq:k / 8 < q:=oM;have c0:=hcs (k / 8) hkq;obtain ⟨l,e1,e2,e3,e4⟩:=pkW_same hl HP.out;have hb256:p[k] < 256:=HP.out _ (List.getElem_mem hl);have HN:Hid (∃ cs',Blk (wr.setCell ⟨w.heap.size,k / 8,none⟩ (.int .u64 (pkW p (k+1) (k / 8):Int))) w.heap.size 32 cs'∧cs'.size=q∧∀ j,j < q→cs'[j]?=some (.int .u64 (pkW p (k+1) j:Int))):=hid ⟨_,hB.set_ (k / 8) _,by simp [hsz],fun j hj=>by
    rw [Array.getElem?_setIfInBounds];by_cases e:k / 8=j
    ·subst e
     simp [hsz,hkq]
    ·rw [if_neg e,hcs j hj,pkW_other hl e]⟩
   have HB2:Hid (Below w.heap.size w (wr.setCell ⟨w.heap.size,k / 8,none⟩ (.int .u64 (pkW p (k+1) (k / 8):Int)))):=hid (HB.out.setCell (nL _) _);rw [e2] at HN HB2;rw [e1] at c0;have f1:wr.cell? ⟨w.heap.size,k / 8,none⟩=some (.int .u64 (lev l:Int)):=by rw [hB.cell];exact c0
   have z1:wr.frozen? ⟨w.heap.size,k / 8,none⟩=false:=hB.frozen _;have hx:=or_lev e4 oM hb256;have HX:Hid (bits .or .u64 (lev l:Int) (IntKind.u64.wrap (((p[k]:Nat):Int) * 2 ^ (k % 8 * 8)))=(lev (l++[p[k]]):Int)):=hid (by
    have h1:(p[k] * 2 ^ (8 * l.length):Nat)≤255 * 2 ^ 56:=Nat.mul_le_mul oM (Nat.pow_le_pow_right oM oM);have h2:(255:Nat) * 2 ^ 56=18374686479671623680:=by decide
    rw [← hx,e3,Nat.mul_comm 8 (k % 8)];rw [e3,Nat.mul_comm 8 (k % 8)] at h1;have h3:(((p[k]:Nat):Int) * 2 ^ (k % 8 * 8))=((p[k] * 2 ^ (k % 8 * 8):Nat):Int):=by push_cast;rfl
    rw [h3,wraps_u64 _ oM oM])
   clear hx;clear e1 e2 e4 hB hcs hsz c0 HC hbB e3;generalize p[k]=bt at *;have hz5:(0:Int)≤(k:Int):=oM;have hz6:(k:Int) < (n:Int):=oM;go_wp2;go_roundw
   case rel =>
    first
     | (
       refine ⟨k+1,oM,by go_num,?_,?_⟩
       ·rw [HX.out];exact HN
       ·rw [HX.out];exact HB2)
     | (
       repeat apply Exists.intro
       refine ⟨?_,rfl⟩;refine ⟨k+1,oM,by go_num,?_,?_⟩
       ·rw [HX.out];exact HN
       ·rw [HX.out];exact HB2)
   case measure=>simp [Go.RowKit.intOf];omega
  ·have hkn:k=n:=oM
   obtain ⟨cs,hB,hsz,hcs⟩:=HC.out;have HF:=hid (HO.out wr cs hB hsz (fun j hj=>by rw [← hkn];exact hcs j hj) HB.out);have hd1:decide ((k:Int) < (n:Int))=false:=dF;have hd2:decide (k < n)=false:=decide_eq_false hlt;clear hkn hlt hk HC HO hB hcs hsz;go_wp2_with (go_at_call 168;refine HF.out.mono ?_;rintro e w1 ⟨d,rfl,h2⟩;have HZ:=hid h2;clear h2)
   go_ret2;exact HZ.out
end
end Go.Proofs.YtfkjjoglnmeciaaGreatDoor

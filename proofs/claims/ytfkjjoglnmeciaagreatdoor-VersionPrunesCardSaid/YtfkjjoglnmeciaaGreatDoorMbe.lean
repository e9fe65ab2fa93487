/- part 31 -/
import Derived.Test.YtfkjjoglnmeciaaGreatDoorMai
import Derived.Test.YtfkjjoglnmeciaaGreatDoorMbd
set_option maxRecDepth 100000
set_option maxHeartbeats 16000000
namespace Go.Proofs.YtfkjjoglnmeciaaGreatDoor
open Go.Lib (hid)
section
open Go.RowKit Go.Maps
theorem HsJ.start {a:DA} {T:Nat} {x:HA} {y:WA} {S:Fp} {w w':World} {gh:Nat} (h:BW a 373 T 10 x y (fun _=>csN) (fun _=>none) 0 0 w.heap.size S (curB 10) w') (hT:T<=100) (hb:Blw w w') (hblk:Blk w' gh 92 #[.pointer (some ⟨y.g,0,none⟩),.slice none 0 0]) (hgh:w.heap.size<=gh) (hoff:¬ sfp S x gh) (hord:LoS x y.d y.r w.heap.size gh/\y.g < gh/\y.u < gh/\y.m < gh) :
  HsJ w 0 gh [] (vvs []) ⟨a,T,x,y,fun _=>csN,fun _=>none,0,0,w.heap.size,S,curB 10,none,0,0,[]⟩ w':=by
 refine ⟨h,hblk,⟨rfl,fun h=>absurd h (Nat.lt_irrefl 0)⟩,nL _,fun r hr=>absurd hr (by simp),fun r hr=>absurd hr (by simp),fun h=>absurd h (Nat.lt_irrefl 0),hoff,trivial,?_,AlV.nil 10,Cap.new (fun _ _=>rfl),z3d.nil,hT,nL _,fun i hi=>?_,hgh,hord,hb⟩
 ·show curB 10 416=0
  unfold curB;rw [(x5v _ 53 10).2 416 oM];rfl
 ·obtain ⟨_,_,_,_,l5,l6,l7,l8⟩:=h.sd.ds.lo
  rcases hi with e | e
  ·exact l8 i e
  ·rcases e with e | e | e <;> rw [e] <;> assumption
def BgS (w0:World) (l:List DR) (k gh:Nat) (w:World):Prop:=∃ rl z,HsJ w0 k gh rl (vvs rl) z w/\BgIs l k rl/\∀ u∈vvs rl,u.st<=stP l k
section
variable {w:World}
theorem y3k (A:Option Addr) (n c:Nat) (l:List DR) (hin:x5g w A n c l) (ht:Tab w) (hpy:Pay w) :
  Calls Tryz.prog 40 #[.slice A n c] w fun e w'=>∃ gh:Nat,e=.returned (.pointer (some ⟨gh,0,none⟩))/\Hid (BgS w l (min n 8) gh w'):=by
 have Gz:=hid (x2v 10 (by decide) (by decide) w ht hpy);have Gf:=hid hin;have HL:=hid (w7s hin.1);obtain ⟨M,hM⟩:∃ M,min n 8=M:=⟨_,rfl⟩
 have HM:=hid (show M<=8/\M<=n/\(n<=8->M=n)/\(8<=n->M=8) by omega);rw [hM];clear hin ht hpy hM;go_enter Tryz.func40,Tryz.ntmps40
 go_wp2_with (go_at_call 20;refine Gz.out.mono ?_;rintro e w1 ⟨a,T,x,y,S,rfl,Gc,hT,hb⟩;have Gb:=hid Gc;have HT:=hid hT;have HB:=hid hb;clear Gc hT hb;refine stop ?_)
 unfold Stop;have Gp:=Blk.new w1 92 #[.pointer (some ⟨y.g,0,none⟩),.slice none 0 0];have Gq:Hid (HsJ w 0 w1.heap.size [] (vvs []) ⟨a,T,x,y,fun _=>csN,fun _=>none,0,0,w.heap.size,S,curB 10,none,0,0,[]⟩ (w1.alloc (.cells #[.pointer (some ⟨y.g,0,none⟩),.slice none 0 0] 92))):=hid (HsJ.start (Gb.out.below ((Below.refl _ _).alloc (nL _) _)) HT.out (HB.out.alloc HB.out.size _) Gp HB.out.size (x8y Gb.out.sd) ⟨Gb.out.sd.lo,Gb.out.blk.lt,Gb.out.und.lt,Gb.out.mgr.lt⟩);have f0:(w1.alloc (.cells #[.pointer (some ⟨y.g,0,none⟩),.slice none 0 0] 92)).cell? ⟨w1.heap.size,0,none⟩=some (.pointer (some ⟨y.g,0,none⟩)):=Gp.cell 0;clear Gp;go_upto_region 5 with fail
 have G2:(if (8:Int) < (n:Int) then (8:Int) else (n:Int))=(M:Int):=by
  obtain ⟨m1,m2,m3,m4⟩:=HM.out;split <;> omega
 have G6:(0:Int)<=(M:Int):=oM;have G7:(M:Int)<=(c:Int):=by have h1:=Gf.out.2.1;have h2:=HM.out;omega
 have Gr:Hid (BgS w l 0 w1.heap.size (w1.alloc (.cells #[.pointer (some ⟨y.g,0,none⟩),.slice none 0 0] 92))):=hid ⟨_,_,Gq.out,BgIs.nil l,fun u hu=>absurd hu (by simp [vvs])⟩;clear Gq f0;go_wp2_with fail
 go_loopw [4,21] (fun v4 vi wr=>∃ k s:Nat,k<=M/\v4=.int .u64 s/\vi=.int .i64 k/\Hid (s=stP l k)/\Hid (BgS w l k w1.heap.size wr)) (fun _ vi _=>M - (Go.RowKit.intOf vi).toNat)
 case atStart=>exact ⟨0,0,Nat.zero_le _,rfl,rfl,hid rfl,Gr⟩
 case round =>
  clear Gr G2;obtain ⟨k,s,hk,rfl,rfl,HS,HJ⟩:=hrel;by_cases hlt:k < M
  ·have G4:k < n:=by have:=HM.out;omega
   have Gc:Blw w wr:=by obtain ⟨rl,z,h1,_⟩:=HJ.out;exact h1.below
   obtain ⟨Gg,gb,go,G1,_,f0,f1,f2⟩:=w0x ((Gf.out.1.below Gc).more Gc.size) (k:=k) G4;subst G1;have HR:=hid (Gf.out.2.2.2 (l[k]) (List.getElem_mem Gg));have Ga:Hid (stP l (k+1)=s+(l[k]).gap+(if k=0 then 0 else 1)):=hid (by
    rw [HS.out];conv=>lhs;unfold stP
    rw [List.getElem?_eq_getElem Gg];rfl)
   have Gi:Hid (∀ rl r,BgIs l k rl->r.v.st=stP l (k+1)->r.v.dl=(l[k]).dl->r.v.p=(if (l[k]).dl=true then [] else (l[k]).p.take 500)->BgIs l (k+1) (r :: rl)):=hid (fun rl r h h1 h2 h3=>h.add Gg h1 h2 h3);have Gt:Hid (stP l k<=256 * k):=hid (w4e l (fun r hr=>(Gf.out.2.2.2 r hr).2.2.2.2) k);generalize l[k]=r at *;obtain ⟨gap,dl,D,nd,cd,p⟩:=r;dsimp only at f0 f1 f2 HR Ga Gi;obtain ⟨W2,Gm⟩:∃ W2,wr.alloc (.cells #[.int .u8 gap,.bool dl,.slice D nd cd] 229)=W2:=⟨_,rfl⟩
   have Gd:=Blk.new wr 229 #[.int .u8 gap,.bool dl,.slice D nd cd];have Gl:Blw wr (wr.alloc (.cells #[.int .u8 gap,.bool dl,.slice D nd cd] 229)):=(Below.refl _ _).alloc (nL _) _;rw [Gm] at Gd Gl;have G0:=hid Gm;have d0:W2.cell? ⟨wr.heap.size,0,none⟩=some (.int .u8 gap):=Gd.cell 0;have d1:W2.cell? ⟨wr.heap.size,1,none⟩=some (.bool dl):=Gd.cell 1;have d2:W2.cell? ⟨wr.heap.size,2,none⟩=some (.slice D nd cd):=Gd.cell 2;obtain ⟨s2,Ge⟩:∃ s2,stP l (k+1)=s2:=⟨_,rfl⟩
   rw [Ge] at Ga;have Gh:Hid (Calls Tryz.prog 126 #[.pointer (some ⟨w1.heap.size,0,none⟩),.int .u64 s2,.agg #[.int .u8 gap,.bool dl,.slice D nd cd]] W2 fun e w'=>e=.returned (.bool true)/\Hid (BgS w l (k+1) w1.heap.size w')):=hid (by
    obtain ⟨rl,z,hj,Gn,Gw⟩:=HJ.out;have G3:k < 8:=by have:=HM.out;omega
    have h0:=w4q (hj.below_ Gl) G3 (by rw [Gn.1];omega) s2 (by have h1:=Gt.out;have h2:=HS.out;have h3:=Ga.out;have h4:gap < 256:=HR.out.2.2.2.2;have h5:(if k=0 then 0 else 1)<=1:=(by split <;> omega);omega) (fun u hu=>by
     have h1:=Gw u hu;have h2:=Ga.out;have h3:=HS.out;have h4:k≠0:=fun e=>by
      subst e;have:=Gn.1;have h5:rl=[]:=List.eq_nil_of_length_eq_zero this;rw [h5] at hu;exact absurd hu (by simp [vvs])
     rw [if_neg h4] at h2;omega) gap dl D nd cd p HR.out.1 HR.out.2.1 HR.out.2.2.1 HR.out.2.2.2.1
    refine h0.mono (fun e w' h=>⟨h.1,hid ?_⟩);obtain ⟨r,z',q1,q2,q3,q4,q5,q6⟩:=h.2.out;refine ⟨r :: rl,z',q1,Gi.out rl r Gn (by rw [q2,Ge]) q3 q4,fun u hu=>?_⟩;rw [Ge];rcases List.mem_cons.1 hu with e | e
    ·subst e
     exact Nat.le_of_eq q2
    ·have h1:=Gw u e
     have h2:=Ga.out;have h3:=HS.out;omega)
   have Gk:Hid (s<=2048/\gap < 256):=hid (by have:=Gt.out;have:=HS.out;have:=HM.out;exact ⟨oM,HR.out.2.2.2.2⟩);have G8:(0:Int)<=(k:Int):=oM;have G9:(k:Int) < (M:Int):=oM;obtain ⟨s1,Gx⟩:∃ s1,s+gap=s1:=⟨_,rfl⟩
   have Gj:=hid Gx;have e1:IntKind.u64.wrap ((s:Int)+(gap:Int))=(s1:Int):=by have:=Gk.out;rw [wraps_u64 _ oM oM];omega
   have e0:IntKind.u64.wrap (gap:Int)=(gap:Int):=by have:=Gk.out;exact wraps_u64 _ oM oM
   have Gu:Hid (s2=stP l (k+1)):=hid Ge.symm;have G5:M<=8:=HM.out.1;clear Gd Gl Gm Gc Gg Ge Gx HR Gi;go_upto_region 8 with fail
   rw [G0.out];go_upto_if 32 with fail
   go_cut [4] from 33 to 34 (fun v wx=>v=.int .u64 s2/\Hid (wx=W2))
   case first =>
    by_cases hk0:k=0
    ·have e3:s1=s2:=by have h:=Ga.out;have h2:=Gj.out;rw [if_pos hk0] at h;omega
     have e4:decide ((0:Int) < (k:Int))=false:=dF;subst e3;go_wp2_with fail
     go_meet;exact ⟨rfl,hid rfl⟩
    ·have e3:s1+1=s2:=by have h:=Ga.out;have h2:=Gj.out;rw [if_neg hk0] at h;omega
     have e4:decide ((0:Int) < (k:Int))=true:=dT;have e5:IntKind.u64.wrap ((s1:Int)+1)=(s2:Int):=by have:=Gk.out;have h2:=Gj.out;rw [wraps_u64 _ oM oM];omega
     clear e3;go_wp2_with fail
     go_meet;exact ⟨rfl,hid rfl⟩
   case rest =>
    obtain ⟨rfl,Gy⟩:=hcut;have hw:=Gy.out.symm;subst hw;clear Gy;go_wp2_with (go_at_call 126;refine Gh.out.mono ?_;rintro e w3 ⟨rfl,Gv⟩;have Gs:=hid Gv.out;clear Gv)
    go_roundw
    case rel =>
     first
      | exact ⟨k+1,s2,oM,rfl,by go_num,Gu,Gs⟩
      | (
        repeat apply Exists.intro
        refine ⟨?_,rfl⟩;exact ⟨k+1,s2,oM,rfl,by go_num,Gu,Gs⟩)
    case measure=>simp [Go.RowKit.intOf];omega
  ·obtain rfl:M=k:=oM
   go_wp2;go_ret;exact ⟨_,rfl,HJ⟩
end
end
section
open Go.RowKit Go.Maps
theorem y2u (x:Nat):∀ l:List VV,(newI x l=l.length->z0t x l=newI x l)/\∀ h:newI x l < l.length,z0t x l=if (l[newI x l]).dl=true then newI x l else newI x l+1
 | []=>⟨fun _=>rfl,fun h=>absurd h (Nat.not_lt_zero _)⟩
 | v :: t=>by
  obtain ⟨g1,g2⟩:=y2u x t;by_cases hs:v.st<=x
  ·have e:newI x (v :: t)=0:=by unfold newI;rw [if_pos hs]
   refine ⟨fun h=>by rw [e] at h;exact absurd h (by simp),fun h=>?_⟩;simp only [e];unfold z0t;rw [if_pos hs];rfl
  ·have e:newI x (v :: t)=newI x t+1:=by rw [newI,if_neg hs]
   have e2:z0t x (v :: t)=z0t x t+1:=by rw [z0t,if_neg hs]
   refine ⟨fun h=>?_,fun h=>?_⟩
   ·rw [e,List.length_cons] at h
    rw [e,e2,g1 oM]
   ·rw [e,List.length_cons] at h
    have h':newI x t < t.length:=oM;simp only [e];rw [e2,g2 h'];show (if (t[newI x t]).dl=true then _ else _)+1=if (t[newI x t]).dl=true then _ else _
    split <;> rfl
theorem x8r (A:Option Addr) (n c:Nat) (l:List RV) (x:Nat) (w:World) (hr:z0c w w.heap.size 5 A n (z0u l)) (hn:n<=100000) :
  Calls Tryz.prog 48 #[.slice A n c,.int .u64 x] w fun e w'=>e=.returned (.int .i64 (z0t x (vvs l):Int))/\Blw w w':=by
 have hl:=z5l hr;have HN:=hid (y3b A n c l x w hr hn);have HR:=hid hr;have Gc:(vvs l).length=l.length:=by unfold vvs;rw [List.length_map]
 obtain ⟨g1,g2⟩:=y2u x (vvs l);have Gb:=y4t x (vvs l);have HK:Hid ((newI x (vvs l)=n->z0t x (vvs l)=newI x (vvs l))/\∀ h:newI x (vvs l) < l.length,z0t x (vvs l)=if (l[newI x (vvs l)]).v.dl=true then newI x (vvs l) else newI x (vvs l)+1):=hid ⟨fun h=>g1 oM,fun h=>by
  have h2:newI x (vvs l) < (vvs l).length:=oM;have e:(vvs l)[newI x (vvs l)]=(l[newI x (vvs l)]).v:=List.getElem_map RV.v (h:=h2);rw [g2 h2,e]⟩
 rw [Gc,hl] at Gb;generalize newI x (vvs l)=i at *;generalize z0t x (vvs l)=k at *;have HL:=hid hl;clear hr hl Gc g1 g2;have Gf:(0:Int)<=(i:Int):=oM;by_cases hi:i < n
 ·have Gg:(i:Int) < (n:Int):=oM
  have d1:((i:Int) == (n:Int))=false:=by rw [beq_eq_false_iff_ne];omega
  have HI:=hid hi;clear hi Gb;go_enter Tryz.func48,Tryz.ntmps48
  go_wp2_with (go_at_call 134;refine HN.out.mono ?_;rintro e w2 ⟨rfl,h2⟩;have Ga:=hid h2;clear h2;refine stop ?_)
  unfold Stop;obtain ⟨Ge,gb,go,Gd,_,f0,f1,f2,f3,f4⟩:=z2n ((HR.out.below Ga.out).more Ga.out.size) (k:=i) HI.out;subst Gd;have HF:=hid (HK.out.2 Ge);generalize l[i]=r at *;obtain ⟨v,B,nb,cb,D,nd,cd⟩:=r;obtain ⟨st,dl,q,bl,p⟩:=v;dsimp only at f0 f1 f2 f3 f4 HF;cases dl
  ·go_wp2
   go_ret;rw [HF.out];exact ⟨rfl,Ga.out⟩
  ·go_wp2
   go_ret;rw [HF.out];exact ⟨rfl,Ga.out⟩
 ·obtain rfl:i=n:=oM
  have HF:=hid (HK.out.1 rfl);clear hi Gb Gf;go_enter Tryz.func48,Tryz.ntmps48
  go_wp2_with (go_at_call 134;refine HN.out.mono ?_;rintro e w2 ⟨rfl,h2⟩;have Ga:=hid h2;clear h2)
  go_ret;rw [HF.out];exact ⟨rfl,Ga.out⟩
theorem w1p (w:World):Calls Tryz.prog 251 #[.slice none 0 0,.int .i64 0,.int .i64 0] w fun e w'=>e=.returned (.tuple #[])/\w=w':=by
 go_enter Tryz.func251,Tryz.ntmps251
 go_wp2_with fail
 refine wp_loop_rounds 1 ?_;rw [rounds_succ];go_wp2_with fail
 go_end0;exact ⟨rfl,rfl⟩
theorem w2i (k:Nat) (w:World):Calls Tryz.prog 141 #[.slice none 0 0,.int .i64 0,.int .i64 0,.int .i64 k] w fun e w'=>e=.returned (.tuple #[])/\w=w':=by
 have HI:=hid (w1p w);go_enter Tryz.func141,Tryz.ntmps141
 go_wp2_with fail
 refine wp_loop_rounds 1 ?_;rw [rounds_succ];go_wp2_with fail
 refine HI.out.mono ?_;rintro e w1 ⟨rfl,rfl⟩;go_wp2_with fail
 refine bodyPost_ret (results_none rfl _ _ _) rfl ?_;exact ⟨rfl,rfl⟩
theorem x9a (w:World):Calls Tryz.prog 58 #[.slice none 0 0] w fun e w'=>e=.returned (.tuple #[])/\w=w':=by
 have Ga:=hid (y0u 0 w oM);have HP:=hid (w2i (Lib.bitLen 0) w);generalize Lib.bitLen 0=k at *;go_enter Tryz.func58,Tryz.ntmps58
 go_wp2_with (first
  | (go_at_call 109;refine Ga.out.mono ?_;rintro e w' ⟨rfl,rfl⟩)
  | (go_at_call 141;refine HP.out.mono ?_;rintro e w' ⟨rfl,rfl⟩))
 go_end0;exact ⟨rfl,rfl⟩
theorem y8b (n0:Nat) (v:Value) (k:Nat) (l:List Nat) (w:World) (h:w.ownsRow n0 32 1 v k (z0a l)) (hk:l.length<=49) :
  Calls Tryz.prog 58 #[v] w fun e w'=>e=.returned (.tuple #[])/\∃ l',l'.Perm l/\Srt 0 l.length l'/\w'.ownsRow n0 32 1 v k (z0a l')/\Chg (fun j=>some j=v.ownBlock) w w':=by
 obtain ⟨hl,⟨rfl,rfl⟩ | ⟨g,cap,cur,rfl,h2,h3,h4,h5,h6,h7⟩⟩:=h
 ·have e:l=[]:=by
   cases l with
   | nil=>rfl
   | cons a t=>simp [z0a] at hl
  subst e;refine (x9a w).mono ?_;rintro e w' ⟨rfl,rfl⟩;exact ⟨rfl,[],List.Perm.refl _,fun p q h1 h2 h3=>absurd h3 (by simp),World.ownsRow_nil _ _ _ _,Chg.refl _ _⟩
 ·have hn:l.length=k:=by simpa [z0a] using hl
  have hx:SX 32 w w g k l cur.size:=by
   refine ⟨cur,h3,rfl,⟨oM,fun i hi=>?_⟩,hn,Chg.refl _ _⟩;have e:(List.take (k * 1) cur.toList)[i]?=(z0a l)[i]?:=by rw [h7]
   rw [List.getElem?_take,if_pos oM] at e;rw [<- Array.getElem?_toList,e];simp [z0a,hi]
  have Gc:cap<=9223372036854775807:=by
   have:maxLen<=9223372036854775807:=by decide
   omega
  refine (w8q g k cap cur.size l w hx oM oM Gc).mono ?_;rintro e w' ⟨rfl,l',⟨Gb,hb,Gd,hr,Ga,hc⟩,hp,hs⟩;refine ⟨rfl,l',hp.perm,hn ▸ hs,⟨by simp [z0a,Ga],.inr ⟨g,cap,Gb,rfl,h2,hb,h4,h5,oM,?_⟩⟩,?_⟩
  ·apply List.ext_getElem?
   intro i;rw [List.getElem?_take];by_cases hi:i < k
   ·rw [if_pos oM,Array.getElem?_toList,hr.2 i oM]
    simp [z0a,Ga,hi]
   ·rw [if_neg oM]
    simp [z0a,Ga,hi]
  ·exact hc.mono (fun j hj=>by subst hj;rfl)
theorem y7l (old x:Nat) (hx:old<=x):∀ l:List VV,(newI x l < z0t old l->newI x (l.take (z0t old l))=newI x l)/\(z0t old l<=newI x l->newI x (l.take (z0t old l))=z0t old l/\∀ h:newI x l < l.length,(l[newI x l]).dl=true)
 | []=>⟨fun h=>absurd h (Nat.not_lt_zero _),fun _=>⟨rfl,fun h=>absurd h (Nat.not_lt_zero _)⟩⟩
 | v :: t=>by
  obtain ⟨g1,g2⟩:=y7l old x hx t;by_cases hs:v.st<=old
  ·have Ga:v.st<=x:=oM
   have e:newI x (v :: t)=0:=by unfold newI;rw [if_pos Ga]
   by_cases hd:v.dl=true
   ·have ek:z0t old (v :: t)=0:=by unfold z0t;rw [if_pos hs,if_pos hd]
    rw [e,ek];refine ⟨fun h=>absurd h (Nat.lt_irrefl 0),fun _=>⟨rfl,fun h=>?_⟩⟩;exact hd
   ·have ek:z0t old (v :: t)=1:=by unfold z0t;rw [if_pos hs,if_neg hd]
    rw [e,ek];refine ⟨fun _=>?_,fun h=>absurd h oM⟩;show newI x [v]=0;unfold newI;rw [if_pos Ga]
  ·have ek:z0t old (v :: t)=z0t old t+1:=by rw [z0t,if_neg hs]
   have et:(v :: t).take (z0t old t+1)=v :: t.take (z0t old t):=rfl;rw [ek,et];by_cases Ga:v.st<=x
   ·have e:newI x (v :: t)=0:=by unfold newI;rw [if_pos Ga]
    rw [e];refine ⟨fun _=>?_,fun h=>absurd h oM⟩;unfold newI;rw [if_pos Ga]
   ·have e:newI x (v :: t)=newI x t+1:=by rw [newI,if_neg Ga]
    have e2:newI x (v :: t.take (z0t old t))=newI x (t.take (z0t old t))+1:=by rw [newI,if_neg Ga]
    rw [e,e2];refine ⟨fun h=>by rw [g1 oM],fun h=>?_⟩;obtain ⟨k1,k2⟩:=g2 oM;refine ⟨by rw [k1],fun h=>?_⟩;exact k2 (by rw [List.length_cons] at h;omega)
theorem y9w (rl:List RV) (old x:Nat) (hx:old<=x):(atV x ((vvs rl).take (z0t old (vvs rl)))=(5,0,false,0,0)/\y5b x (vvs rl)=(0,5)) \/
  ∃ (i:Nat) (h:i < rl.length) (ol:Nat),atV x ((vvs rl).take (z0t old (vvs rl)))=(0,(rl[i]).v.st,false,(rl[i]).v.dt,ol)/\y5b x (vvs rl)=(i,0)/\(rl[i]).v.dl=false/\(rl[i]).v∈(vvs rl).take (z0t old (vvs rl)):=by
 obtain ⟨h1,h2⟩:=y7l old x hx (vvs rl);have Gd:=z7r old (vvs rl);have Ge:=y4t x (vvs rl);have Gf:(vvs rl).length=rl.length:=by unfold vvs;rw [List.length_map]
 obtain ⟨k,hk⟩:∃ k,z0t old (vvs rl)=k:=⟨_,rfl⟩
 obtain ⟨i,hi⟩:∃ i,newI x (vvs rl)=i:=⟨_,rfl⟩
 simp only [hk,hi] at h1 h2 Gd Ge;rw [hk];by_cases hik:i < k
 ·have e1:=h1 hik
  have Ga:i < (vvs rl).length:=oM;have Gc:i < rl.length:=oM;have ev:(vvs rl)[i]=(rl[i]).v:=List.getElem_map RV.v (h:=Ga);have et:((vvs rl).take k)[i]?=some (rl[i]).v:=by
   rw [List.getElem?_take,if_pos hik,List.getElem?_eq_getElem Ga,ev]
  have ef:(vvs rl)[i]?=some (rl[i]).v:=by rw [List.getElem?_eq_getElem Ga,ev]
  have Gb:(rl[i]).v∈(vvs rl).take k:=List.mem_of_getElem? et;unfold atV y5b;rw [e1,hi,et,ef];cases hd:(rl[i]).v.dl with
  | true =>
   left
   exact ⟨by show (if (rl[i]).v.dl=true then _ else _)=_;rw [if_pos hd],by show (if (rl[i]).v.dl=true then _ else _)=_;rw [if_pos hd]⟩
  | false =>
   right
   refine ⟨i,Gc,_,by show (if (rl[i]).v.dl=true then _ else _)=_;rw [hd,if_neg (by decide)],by show (if (rl[i]).v.dl=true then _ else _)=_;rw [hd,if_neg (by decide)],hd,Gb⟩
 ·obtain ⟨e1,e2⟩:=h2 oM
  left
  have et:((vvs rl).take k)[k]?=none:=List.getElem?_eq_none (by rw [List.length_take];omega);unfold atV y5b;rw [e1,hi,et];refine ⟨rfl,?_⟩;by_cases Ga:i < (vvs rl).length
  ·rw [List.getElem?_eq_getElem Ga]
   show (if ((vvs rl)[i]).dl=true then _ else _)=_;rw [if_pos (e2 Ga)]
  ·rw [List.getElem?_eq_none oM]
theorem z3d.up {k k':Nat} {al:List Nat} (h:z3d k 0 al) (hk:k<=k'):z3d k' 0 al:=by
 obtain ⟨h0,h1,h2,h3,h4⟩:=h;unfold z3d;omega
theorem y7g {K:Nat} {cs:Nat->CS} {cur:Nat->Nat} {l:List VV} (h:z2r K cs cur l) {k:Nat}:∀ r∈z0h (l.drop k),y2c 53 K cs r:=fun r hr=>by
 obtain ⟨Ga,k2,i2,h2⟩:=x2k h (by rw [z4r l k];exact List.mem_append.2 (.inr hr));exact h2.freeOk
theorem HsJ.pruned {w0 w w':World} {k gh kk:Nat} {rl:List RV} {z:HP} {e:Ending} (hj:HsJ w0 k gh rl (vvs rl) z w) (hkk:kk<=(vvs rl).length)
  (hp:z7c z.a 373 z.T 53 (32 * 10) 10 z.x z.cs z.f z.N z.m z.b0 z.S z.cur w z.y.d z.y.r (cutU (vvs rl) kk) [] (z0h ((vvs rl).drop kk)) 0 e w') :
  e=.returned (.int .i64 0)/\∃ z',HsJ w0 (k+1) gh rl ((vvs rl).take kk) z' w'/\z'.y=z.y/\z'.b0=z.b0:=by
 obtain ⟨ks,V,cm,S3,he,hA,Gg,Gi,Gb,Gh,Gc,Gd⟩:=hp;have hd:=hj.bw.sd.ds;obtain ⟨g1,g2,g3⟩:=w1n (cm:=cm) hd hj.hist hj.ali hj.link hkk hA Gg Gb;have Ga:rdG 0 z.cur (cutU (vvs rl) kk++ks.flatMap (acW 53 z.cs (tlOf 53 z.cs []) (dlOf 53 z.cs (z0h ((vvs rl).drop kk))) V)) cm (8 * 26)=0:=by
  refine (z5b hd oM hA Gb (.inr oM) (fun e he=>?_) (fun k hk e he heq=>?_)).trans hj.bw.uid
  ·unfold cutU at he
   split at he
   ·rename_i h7
    split at he
    ·rw [List.mem_singleton] at he
     subst he;show 3328 / 8≠_;omega
    ·rw [List.mem_singleton] at he
     subst he;have Ge:kk - 1 < (vvs rl).length:=oM;obtain ⟨k2,i2,h2,_⟩:=((z7q.1 hj.hist).1 (kk - 1) Ge).live;have hl:=h2.at_.lines.1;rw [List.getElem?_eq_getElem Ge];show (pOff ((vvs rl)[kk - 1]).q+16) / 8≠_;omega
   ·exact absurd he (by simp)
  ·obtain ⟨_,h2,_,h4,_⟩:=hA.at_ hk he
   have:=z9r h2;omega
 have Gf:=hj.bw.keep Gh Gc Gd Ga;refine ⟨he,_,hj.move Gf Gc Gd g1 g2 g3 (hj.cap.pub (keep:=[]) (fun q hq=>absurd hq (by simp)) (y7g hj.hist)) (hj.room.up (Nat.le_succ k)) (by have:=hj.tm;omega) (by have:=hj.nm;omega),rfl,rfl⟩
theorem x2y {w0 w:World} {k gh:Nat} {rl:List RV} {z:HP} (hj:HsJ w0 k gh rl (vvs rl) z w) (hl:rl.length<=8) (h2:∀ r∈rl,r.v.bl.length<=2) (kk:Nat):(z0h ((vvs rl).drop kk)).length<=24/\(z0h (vvs rl)).length<=24:=by
 have h3:∀ l:List RV,(∀ r∈l,r.v.bl.length<=2)->(z0h (vvs l)).length<=3 * l.length:=fun l=>by
  induction l with
  | nil=>intro _;simp [vvs,z0h]
  | cons r t ih =>
   intro h;have h1:=h r (by simp);have h4:=ih (fun u hu=>h u (by simp [hu]));unfold vvs at h4 ⊢;rw [List.map_cons,z2e,List.length_append,List.length_cons,List.length_cons];omega
 have e:(vvs rl).drop kk=vvs (rl.drop kk):=by unfold vvs;rw [List.map_drop]
 rw [e];have g1:=h3 (rl.drop kk) (fun r hr=>h2 r (List.mem_of_mem_drop hr));have g2:=h3 rl h2;rw [List.length_drop] at g1;omega
theorem y2x (W:World) (C:Array Value) (t:TypeId) (fz:Nat × Nat) (l:List Nat) (n:Nat) (h:C.toList=u8s l) (hl:l.length=n):z0c (W.alloc (.cells C t fz)) (W.alloc (.cells C t fz)).heap.size 1 (some ⟨W.heap.size,0,none⟩) n (u8s l):=by
 refine ⟨by simp [u8s,hl],fun _=>⟨_,rfl,by simp,fun j u hu=>?_⟩⟩;have hh:(W.alloc (.cells C t fz)).heap[W.heap.size]?=some (.cells C t fz):=heap_alloc_new W _;have ha:(⟨W.heap.size,0,none⟩:Addr).add j=⟨W.heap.size,j,none⟩:=by unfold Addr.add;split <;> simp_all
 rw [ha,cell_of_row _ _ _ _ _ _ hh,<- Array.getElem?_toList,h];exact hu
structure HvC (gh gw d:Nat) (w4:World) (rl:List RV):Prop where
 h0:∀ W,Blw w4 W->W.cell? ⟨gh,0,none⟩=some (.pointer (some ⟨gw,0,none⟩))
 h3:∀ W,Blw w4 W->W.cell? ⟨gw,3,none⟩=some (.pointer (some ⟨d,0,none⟩))
 lk:∀ W,Blw w4 W->Calls Tryz.prog 33 #[.pointer (some ⟨gw,0,none⟩),.int .i64 0] W fun e w'=>e=.returned (.int .u64 (hdQ (vvs rl):Int))/\w'=W.drew
 at_:∀ W,Blw w4 W->∀ x:Nat,Calls Tryz.prog 57 #[.iface 59 (.pointer (some ⟨d,0,none⟩)),.int .u64 (hdQ (vvs rl):Int),.int .u64 x] W (z5g W (atV x (vvs rl)))
 ck:∀ W,Blw w4 W->Calls Tryz.prog 59 #[.iface 59 (.pointer (some ⟨d,0,none⟩)),.int .u64 (hdQ (vvs rl):Int)] W fun e w'=>e=.returned (.int .i64 0)/\Blw W w'
 same:∀ W,Blw w4 W->∀ (i:Nat) (hi:i < rl.length) (dl:Bool) (dt ol:Nat),dl=(rl[i]).v.dl->dt=(rl[i]).v.dt->ol=hdQ (vvs (rl.drop (i+1)))->Calls Tryz.prog 42 #[.pointer (some ⟨gh,0,none⟩),vAgg (rl[i]).v.st dl dt ol,.int .i64 i] W fun e w'=>e=.returned (.bool true)/\Blw W w'
 h1:∃ (A:Option Addr) (n c:Nat),n=rl.length/\n<=c/\n<=8/\(∀ W,Blw w4 W->W.cell? ⟨gh,1,none⟩=some (.slice A n c)/\z0c W W.heap.size 5 A n (z0u rl))
 desc:Desc rl
 hd:hdQ (vvs rl) < 18446744073709551616
 sp:∀ r∈rl,r.v.st<=4611686018427387903
theorem w3z {w0 w4:World} {k gh:Nat} {rl:List RV} {z:HP} (h:HsJ w0 k gh rl (vvs rl) z w4) (hk:rl.length<=8):HvC gh z.y.g z.y.d w4 rl:=by
 have Ga:(vvs rl).length<=4096:=by unfold vvs;rw [List.length_map];omega
 refine ⟨fun W hW=>(h.below_ hW).blk.cell 0,fun W hW=>(h.below_ hW).bw.blk.cell 3,fun W hW=>?_,fun W hW x=>?_,fun W hW=>?_,fun W hW i hi dl dt ol h2 h3 h4=>w2u (h.below_ hW) i hi _ dl dt ol oM rfl h2 h3 h4,⟨z.A,z.n,z.c,(z5l h.rd).symm,h.cp,by rw [<- z5l h.rd];exact hk,fun W hW=>⟨(h.below_ hW).blk.cell 1,(h.below_ hW).rd⟩⟩,h.hist.desc,h.hist.hd64,fun r hr=>?_⟩
 ·have h1:=z8d (h.bw.below hW) 0 (by decide)
  rw [show z.cur (416+0)=hdQ (vvs rl) from h.link] at h1;exact h1
 ·have h1:=x9l (h.bw.below hW).sd (hdQ (vvs rl)) x h.hist.hd64
  rw [x5y h.hist Ga] at h1;exact h1
 ·have h1:=y3l (h.bw.below hW).sd (hdQ (vvs rl)) h.hist.hd64
  rw [x6i h.hist (h.bw.below hW).sd.ds Ga] at h1;exact h1
 ·obtain ⟨Gb,hv⟩:=h.hist.ver r.v (by unfold vvs;exact List.mem_map.2 ⟨r,hr,rfl⟩)
  exact hv.sp
section
variable {w:World}
def aw3 (w:World):World:=((w.alloc (.cells #[.int .u8 97] 5 (1,2))).alloc (.cells #[.int .u8 98] 5 (1,2))).alloc (.cells #[.int .u8 2,.bool false,.slice (some ⟨w.heap.size,0,none⟩) 1 1,.int .u8 2,.bool false,.slice (some ⟨w.heap.size+1,0,none⟩) 1 1,.int .u8 3,.bool true,.slice none 0 0] 229)
def awL (w:World):List DR:=[⟨2,false,some ⟨w.heap.size,0,none⟩,1,1,[97]⟩,⟨2,false,some ⟨w.heap.size+1,0,none⟩,1,1,[98]⟩,⟨3,true,none,0,0,[]⟩]
theorem w7l (w:World):x5g (aw3 w) (some ⟨w.heap.size+1+1,0,none⟩) 3 3 (awL w)/\Blw w (aw3 w):=by
 have s1:(w.alloc (.cells #[.int .u8 97] 5 (1,2))).heap.size=w.heap.size+1:=by simp
 have s2:((w.alloc (.cells #[.int .u8 97] 5 (1,2))).alloc (.cells #[.int .u8 98] 5 (1,2))).heap.size=w.heap.size+1+1:=by simp
 have r1:=y2x w #[.int .u8 97] 5 (1,2) [97] 1 rfl rfl;have r2:=y2x (w.alloc (.cells #[.int .u8 97] 5 (1,2))) #[.int .u8 98] 5 (1,2) [98] 1 rfl rfl;rw [s1] at r2;have Ga:Below (w.alloc (.cells #[.int .u8 97] 5 (1,2))).heap.size (w.alloc (.cells #[.int .u8 97] 5 (1,2))) (aw3 w):=((Below.refl _ _).alloc (nL _) _).alloc (by simp) _;have Gb:Below ((w.alloc (.cells #[.int .u8 97] 5 (1,2))).alloc (.cells #[.int .u8 98] 5 (1,2))).heap.size ((w.alloc (.cells #[.int .u8 97] 5 (1,2))).alloc (.cells #[.int .u8 98] 5 (1,2))) (aw3 w):=(Below.refl _ _).alloc (nL _) _;refine ⟨⟨?_,nL _,oM,fun r hr=>?_⟩,(((Below.refl _ _).alloc (nL _) _).alloc (by simp) _).alloc (by rw [s2];omega) _⟩
 ·refine ⟨rfl,fun _=>⟨_,rfl,by unfold aw3;simp,fun j u hu=>?_⟩⟩
  have hh:=heap_alloc_new ((w.alloc (.cells #[.int .u8 97] 5 (1,2))).alloc (.cells #[.int .u8 98] 5 (1,2))) (.cells #[.int .u8 2,.bool false,.slice (some ⟨w.heap.size,0,none⟩) 1 1,.int .u8 2,.bool false,.slice (some ⟨w.heap.size+1,0,none⟩) 1 1,.int .u8 3,.bool true,.slice none 0 0] 229);rw [s2] at hh;have ha:(⟨w.heap.size+1+1,0,none⟩:Addr).add j=⟨w.heap.size+1+1,j,none⟩:=by unfold Addr.add;split <;> simp_all
  rw [ha];refine (cell_of_row _ _ _ _ _ _ hh).trans ?_;rw [<- Array.getElem?_toList];exact hu
 ·unfold awL at hr
  simp only [List.mem_cons,List.not_mem_nil,or_false] at hr;rcases hr with rfl | rfl | rfl
  ·exact ⟨(r1.below Ga).more Ga.size,(show ∀ b∈[97],b < 256 by decide),nL _,by show 1<=9223372036854775807;omega,by show 2 < 256;omega⟩
  ·exact ⟨(r2.below Gb).more Gb.size,(show ∀ b∈[98],b < 256 by decide),nL _,by show 1<=9223372036854775807;omega,by show 2 < 256;omega⟩
  ·exact ⟨⟨rfl,fun h=>absurd h (Nat.lt_irrefl 0)⟩,by simp,nL _,Nat.zero_le _,by show 3 < 256;omega⟩
theorem w9g {w:World} {rl:List RV} (h:BgIs (awL w) 3 rl):∃ r3 r2 r1:RV,rl=[r3,r2,r1]/\r3.v.st=9/\r3.v.dl=true/\r2.v.st=5/\r2.v.dl=false/\r1.v.st=2/\r1.v.dl=false:=by
 obtain ⟨h1,h2⟩:=h
 match rl,h1 with
 | [r3,r2,r1],_ =>
  have e:(List.range 3).map (fun j=>(stP (awL w) (j+1),(((awL w)[j]?).map DR.dl).getD false,if (((awL w)[j]?).map DR.dl).getD false=true then [] else ((((awL w)[j]?).map DR.p).getD []).take 500))=[(2,false,[97]),(5,false,[98]),(9,true,[])]:=rfl;rw [e] at h2;simp only [List.reverse_cons,List.reverse_nil,List.nil_append,List.cons_append,List.map_cons,List.map_nil,List.cons.injEq,Prod.mk.injEq,and_true] at h2;obtain ⟨⟨a1,a2,_⟩,⟨b1,b2,_⟩,c1,c2,_⟩:=h2;exact ⟨r3,r2,r1,rfl,c1,c2,b1,b2,a1,a2⟩
theorem x5c (w:World) (ht:Tab w) (hpy:Pay w) :
  Calls Tryz.prog 39 #[] w fun e w'=>e=.returned (.bool true)/\Blw w w':=by
 obtain ⟨G8,Gm⟩:=w7l w;have Gn:=hid (y3k (some ⟨w.heap.size+1+1,0,none⟩) 3 3 (awL w) G8 (ht.below Gm) (hpy.below Gm));have Gk:=hid Gm;have kc:=fun (w:World) (C:Array Value) (n c:Nat)=>Lib.run_convert_bytes_const (P:=Tryz.prog) w 24 5 C n c Tryz.underlying24 Tryz.underlying5
 have k2:=kc (w.alloc (.cells #[.int .u8 97] 5 (1,2))) #[.int .u8 98] 1 1;rw [show (w.alloc (.cells #[.int .u8 97] 5 (1,2))).heap.size=w.heap.size+1 by simp] at k2;unfold aw3 at Gn Gk;clear G8 Gm ht hpy;go_enter Tryz.func39,Tryz.ntmps39
 go_wp2_with (go_at_call 40;refine Gn.out.mono ?_;rintro e w4 ⟨gh,rfl,G7⟩;have G0:=hid G7.out;clear G7;refine stop ?_)
 unfold Stop;obtain ⟨rl,z,hj,Gf, -⟩:=G0.out;obtain ⟨r3,r2,r1,rfl,a1,a2,b1,b2,c1,c2⟩:=w9g Gf;have HV:=hid (w3z hj (show (3:Nat)<=8 by decide));have Gw:=hid (Gk.out.trans (hj.below.mono Gk.out.size));generalize z.y.g=gw at HV;generalize z.y.d=d at HV;have h8:atV 8 (vvs [r3,r2,r1])=(0,5,false,r2.v.dt,hdQ (vvs [r1])):=by
  unfold atV vvs;simp [newI,a1,b1,b2]
 have h9:atV 9 (vvs [r3,r2,r1])=(5,0,false,0,0):=by
  unfold atV vvs;simp [newI,a1,a2]
 have h1:atV 1 (vvs [r3,r2,r1])=(5,0,false,0,0):=by
  unfold atV vvs;simp [newI,a1,b1,c1]
 obtain ⟨Ge,Ga⟩:∃ Ge,hdQ (vvs [r3,r2,r1])=Ge:=⟨_,rfl⟩
 have G2:=hid HV.out.lk;have G1:=hid HV.out.ck;have H8:Hid (∀ W,Blw w4 W->Calls Tryz.prog 57 #[.iface 59 (.pointer (some ⟨d,0,none⟩)),.int .u64 Ge,.int .u64 8] W fun e w'=>e=.returned (.tuple #[.agg #[.int .u64 5,.bool false,.int .u64 r2.v.dt,.int .u64 (hdQ (vvs [r1]):Int)],.int .i64 0])/\Blw W w'):=hid (fun W hW=>by
  have h:=HV.out.at_ W hW 8;rw [h8,Ga] at h;exact h)
 have H9:Hid (∀ W,Blw w4 W->Calls Tryz.prog 57 #[.iface 59 (.pointer (some ⟨d,0,none⟩)),.int .u64 Ge,.int .u64 9] W fun e w'=>e=.returned (.tuple #[.agg #[.int .u64 0,.bool false,.int .u64 0,.int .u64 0],.int .i64 5])/\Blw W w'):=hid (fun W hW=>by
  have h:=HV.out.at_ W hW 9;rw [h9,Ga] at h;exact h)
 have H1:Hid (∀ W,Blw w4 W->Calls Tryz.prog 57 #[.iface 59 (.pointer (some ⟨d,0,none⟩)),.int .u64 Ge,.int .u64 1] W fun e w'=>e=.returned (.tuple #[.agg #[.int .u64 0,.bool false,.int .u64 0,.int .u64 0],.int .i64 5])/\Blw W w'):=hid (fun W hW=>by
  have h:=HV.out.at_ W hW 1;rw [h1,Ga] at h;exact h)
 rw [Ga] at G2 G1;generalize r2.v.dt=dt at H8;generalize hdQ (vvs [r1])=ol at H8;have Gi:=hid HV.out.h0;have Gl:=hid HV.out.h3;clear Gn Gk kc k2 G0 hj Gf a1 a2 b1 b2 c1 c2 HV h8 h9 h1 Ga;have f0:=Gi.out w4 (Below.refl _ _);go_wp2_with (go_at_call 33;refine (G2.out w4 (Below.refl _ _)).mono ?_;rintro e w5 ⟨rfl,G9⟩;have Gh:Hid (Blw w4 w5):=hid (by rw [G9];exact (Below.refl _ _).drew);clear G9;refine stop ?_)
 unfold Stop;have g0:=Gi.out w5 Gh.out;have g3:=Gl.out w5 Gh.out;have HA:=hid (H8.out w5 Gh.out);go_wp2_with (go_at_call 57;refine HA.out.mono ?_;rintro e w6 ⟨rfl,Gg⟩;have Gx:=hid (Gh.out.trans (Gg.mono Gh.out.size));clear Gg;refine stop ?_)
 unfold Stop;obtain ⟨W6,Go⟩:∃ W6,w6.alloc (.cells #[.int .u64 5,.bool false,.int .u64 dt,.int .u64 ol] 97)=W6:=⟨_,rfl⟩
 have Gt:=Blk.new w6 97 #[.int .u64 5,.bool false,.int .u64 dt,.int .u64 ol];have Gg:=Gx.out.alloc Gx.out.size (.cells #[.int .u64 5,.bool false,.int .u64 dt,.int .u64 ol] 97);rw [Go] at Gt Gg;have GE:=hid Go;have G3:=hid Gt;have Gb:=hid Gg;clear Go Gt Gg g0 g3 f0;have g0:=Gi.out W6 Gb.out;have g3:=Gl.out W6 Gb.out;have GA:=hid (H9.out W6 Gb.out);go_upto_region 6 with fail
 rw [GE.out];go_wp2_with (go_at_call 57;refine GA.out.mono ?_;rintro e w7 ⟨rfl,Gr⟩;have Gy:=hid (Gb.out.trans (Gr.mono Gb.out.size));have G4:=hid (G3.out.below Gr G3.out.lt);clear Gr;refine stop ?_)
 unfold Stop;obtain ⟨W7,Gp⟩:∃ W7,w7.alloc (.cells #[.int .u64 0,.bool false,.int .u64 0,.int .u64 0] 97)=W7:=⟨_,rfl⟩
 have Gu:Blw w7 W7:=by rw [<- Gp];exact (Below.refl _ _).alloc (nL _) _
 have GF:=hid Gp;have Gj:=hid (G4.out.below Gu G4.out.lt);have Gc:=hid (Gy.out.trans (Gu.mono Gy.out.size));clear Gp Gu g0 g3;have g0:=Gi.out W7 Gc.out;have g3:=Gl.out W7 Gc.out;have GB:=hid (H1.out W7 Gc.out);go_upto_region 7 with fail
 rw [GF.out];go_wp2_with (go_at_call 57;refine GB.out.mono ?_;rintro e w8 ⟨rfl,Gs⟩;have Gz:=hid (Gc.out.trans (Gs.mono Gc.out.size));have G5:=hid (Gj.out.below Gs Gj.out.lt);clear Gs;refine stop ?_)
 unfold Stop;obtain ⟨W8,Gq⟩:∃ W8,w8.alloc (.cells #[.int .u64 0,.bool false,.int .u64 0,.int .u64 0] 97)=W8:=⟨_,rfl⟩
 have Gv:Blw w8 W8:=by rw [<- Gq];exact (Below.refl _ _).alloc (nL _) _
 have GG:=hid Gq;have Gd:=hid (Gz.out.trans (Gv.mono Gz.out.size));have k0:W8.cell? ⟨w6.heap.size,0,none⟩=some (.int .u64 5):=(G5.out.below Gv G5.out.lt).cell 0;clear Gq Gv g0 g3;have g0:=Gi.out W8 Gd.out;have g3:=Gl.out W8 Gd.out;have GD:=hid (G1.out W8 Gd.out);go_upto_region 8 with fail
 rw [GG.out];go_wp2_with (go_at_call 59;refine GD.out.mono ?_;rintro e w9 ⟨rfl,G6⟩;have GC:=hid (Gd.out.trans (G6.mono Gd.out.size));clear G6)
 go_ret;exact ⟨rfl,Gw.out.trans (GC.out.mono Gw.out.size)⟩
end
end
section
open Go.RowKit Go.Maps
structure VqC (gc dc:Nat) (lt:List VV) (wc:World):Prop where
 h3:∀ W,Blw wc W->W.cell? ⟨gc,3,none⟩=some (.pointer (some ⟨dc,0,none⟩))
 lk:∀ W,Blw wc W->Calls Tryz.prog 33 #[.pointer (some ⟨gc,0,none⟩),.int .i64 0] W fun e w'=>e=.returned (.int .u64 (hdQ lt:Int))/\w'=W.drew
 at_:∀ W,Blw wc W->∀ x:Nat,Calls Tryz.prog 57 #[.iface 59 (.pointer (some ⟨dc,0,none⟩)),.int .u64 (hdQ lt:Int),.int .u64 x] W (z5g W (atV x lt))
 rd:∀ W,Blw wc W->∀ v∈lt,v.dl=false->Calls Tryz.prog 30 #[.iface 59 (.pointer (some ⟨dc,0,none⟩)),.int .u64 v.dt] W fun e w'=>∃ A m c,e=.returned (.tuple #[.slice A m c,.int .i64 0])/\m=v.p.length/\z0c w' w'.heap.size 1 A m (u8s v.p)/\Blw W w'
 ck:∀ W,Blw wc W->Calls Tryz.prog 59 #[.iface 59 (.pointer (some ⟨dc,0,none⟩)),.int .u64 (hdQ lt:Int)] W fun e w'=>e=.returned (.int .i64 0)/\Blw W w'
 lv:∃ l:List Nat,l.Perm (z0h lt)/\∀ W,Blw wc W->Calls Tryz.prog 25 #[.pointer (some ⟨gc,0,none⟩)] W (w6x W l)
 pb:∀ v∈lt,∀ b∈v.p,b < 256
 bz:∀ v∈lt,v.dl=false->0 < v.bl.length
section
variable {a:DA} {L T:Nat} {x:HA} {y:WA} {cs:Nat->CS} {f:Nat->Option Nat} {N m b0:Nat} {S:Fp} {cur:Nat->Nat} {wc:World} {lt:List VV}
theorem w8z (h:BW a L T 10 x y cs f N m b0 S cur wc) (hist:z2r 10 cs cur lt) (hlink:cur 416=hdQ lt) (hal:AlV 10 cs lt) (hlen:lt.length<=4096):VqC y.g y.d lt wc:=by
 refine ⟨fun W hW=>(h.below hW).blk.cell 3,fun W hW=>?_,fun W hW x=>?_,fun W hW v hv hdl=>?_,fun W hW=>?_,⟨lvK 53 cs 10,?_,fun W hW=>?_⟩,fun v hv=>?_,fun v hv hdl=>?_⟩
 ·have h2:=z8d (h.below hW) 0 (by decide)
  rw [show 416+0=416 from rfl,hlink] at h2;exact h2
 ·have h1:=x9l (h.below hW).sd (hdQ lt) x hist.hd64
  rw [x5y hist hlen] at h1;exact h1
 ·obtain ⟨Ga,h1⟩:=hist.ver v hv
  have Gb:v.dt < 18446744073709551616:=by
   have h2:=h1.blen;rw [hdl,if_neg (by decide)] at h2;have h3:=z4h v.p;have h4:0 < v.bl.length:=oM;obtain ⟨k,i,g1,_⟩:=(h1.bk 0 h4).live;unfold VV.dt;rw [z5s _ h4];exact g1.lt
  have h2:=x6e (h.below hW).sd v.dt Gb;rw [h1.blob (h.below hW).sd.ds hdl] at h2;refine h2.mono (fun e w' h=>?_);unfold x9z at h;rw [if_pos rfl] at h;obtain ⟨A,m,c,e1,e2,e3,_,_,e4⟩:=h;exact ⟨A,m,c,e1,e2,e3,e4⟩
 ·have h1:=y3l (h.below hW).sd (hdQ lt) hist.hd64
  rw [x6i hist (h.below hW).sd.ds hlen] at h1;exact h1
 ·exact y9u (z9e (x7s h.sd.ds)) (z9e hal.2) (fun q=>(x5t h.sd.ds).trans (hal.1 q))
 ·have h1:=h.below hW
  exact y5l h1.sd.ds oM y.g (h1.blk.cell 2) h1.blk.lt
 ·obtain ⟨Ga,h1⟩:=hist.ver v hv
  exact h1.pb
 ·obtain ⟨Ga,h1⟩:=hist.ver v hv
  have h2:=h1.blen;rw [hdl,if_neg (by decide)] at h2;have h3:=z4h v.p;omega
end
structure VqR (gh:Nat) (rl:List RV) (wc:World):Prop where
 h1:∃ (A:Option Addr) (n c:Nat),n=rl.length/\n<=c/\∀ W,Blw wc W->W.cell? ⟨gh,1,none⟩=some (.slice A n c)/\z0c W W.heap.size 5 A n (z0u rl)
 rin:∀ W,Blw wc W->∀ r∈rl,z0c W W.heap.size 1 r.B r.nb (z0a r.v.bl)/\z0c W W.heap.size 1 r.D r.nd (u8s r.v.p)
theorem w4g {w0 wc:World} {k gh:Nat} {rl:List RV} {vl:List VV} {z:HP} (h:HsJ w0 k gh rl vl z wc):VqR gh rl wc :=
 ⟨⟨z.A,z.n,z.c,(z5l h.rd).symm,h.cp,fun W hW=>⟨(h.below_ hW).blk.cell 1,(h.below_ hW).rd⟩⟩,fun W hW r hr=>by
  obtain ⟨r1,r2,_⟩:=(h.below_ hW).rin r hr;exact ⟨r1,r2⟩⟩
theorem HsJ.crashq {w0 w:World} {k gh:Nat} {rl:List RV} {lt:List VV} {z:HP} (h:HsJ w0 k gh rl lt z w) (hlen:lt.length<=4096) (A:Option Addr) (n c:Nat) :
  Calls Tryz.prog 29 #[.pointer (some ⟨z.y.g,0,none⟩),.slice A n c,.int .i64 (-1)] w fun e w'=>∃ gc dc,e=.returned (.pointer (some ⟨gc,0,none⟩))/\VqC gc dc lt w'/\VqR gh rl w'/\Blw w w':=by
 refine (y2b h.bw z.b0 ⟨nL _,Nat.le_trans h.ord.1.b (Nat.le_of_lt h.blk.lt)⟩ A n c).mono ?_;rintro e w' ⟨a',S',x',y',rfl,Ga,hb⟩;exact ⟨y'.g,y'.d,rfl,w8z Ga h.hist h.link h.ali hlen,w4g (h.below_ hb),hb⟩
theorem x2x {v:VV} {l:List VV}:z0h (v :: l)≠[]:=by rw [z2e];simp
theorem w2n {K:Nat} {cs:Nat->CS} {cur:Nat->Nat} {l:List VV} (h:z2r K cs cur l) (old:Nat) :
  (!decide (z0h (l.drop (z0t old l))=[]) && decide (cutV old 0 l=0))=decide (z0t old l=0/\0 < l.length) /\
   ((z0t old l=0/\0 < l.length)->cutU l (z0t old l)=[(3328,0)]/\prU (cutV old 0 l) (z0h (l.drop (z0t old l)))=[]) /\
   (¬ (z0t old l=0/\0 < l.length)->cutU l (z0t old l)=prU (cutV old 0 l) (z0h (l.drop (z0t old l)))) /\
   (¬ (0 < z0t old l/\z0t old l < l.length)->prU (cutV old 0 l) (z0h (l.drop (z0t old l)))=[]) /\
   (0 < z0t old l->z0t old l < l.length->prU (cutV old 0 l) (z0h (l.drop (z0t old l)))=[(pAt ((l[z0t old l - 1]?.map VV.q).getD 0) 2,0)]):=by
 obtain ⟨c1,c3⟩:=x6n old l 0;have c2:∀ (_:0 < z0t old l) (h2:z0t old l - 1 < l.length),cutV old 0 l=(l[z0t old l - 1]).q:=fun h _=>c3 h
 have Ge:=z7r old l;clear c3;generalize z0t old l=k at *;generalize cutV old 0 l=c at *;by_cases hk:k < l.length
 ·have Gc:z0h (l.drop k)≠[]:=by rw [List.drop_eq_getElem_cons hk];exact x2x
  by_cases h0:k=0
  ·have hc:=c1 h0
   subst h0 hc;have e1:prU 0 (z0h (l.drop 0))=[]:=by unfold prU;rw [if_pos (.inr rfl)]
   refine ⟨by rw [decide_eq_false Gc,decide_eq_true rfl,decide_eq_true ⟨rfl,hk⟩];rfl,fun _=>⟨by unfold cutU;rw [if_pos hk,if_pos rfl],e1⟩,fun h=>absurd ⟨rfl,hk⟩ h,fun _=>e1,fun h=>absurd h (Nat.lt_irrefl 0)⟩
  ·have Ga:k - 1 < l.length:=oM
   have hc:=c2 oM Ga;obtain ⟨Gd,hv⟩:=h.ver _ (List.getElem_mem Ga);have hq:=hv.nz.1;rw [<- hc] at hq;have e1:prU c (z0h (l.drop k))=[(pAt c 2,0)]:=by unfold prU;rw [if_neg (fun h=>h.elim Gc hq)]
   refine ⟨by rw [decide_eq_false hq,decide_eq_false (fun h:k=0/\0 < l.length=>h0 h.1),Bool.and_false],fun h=>absurd h.1 h0,fun _=>?_,fun h=>absurd ⟨oM,hk⟩ h,fun _ _=>by rw [e1,hc,List.getElem?_eq_getElem Ga];rfl⟩;rw [e1];unfold cutU;rw [if_pos hk,if_neg h0,List.getElem?_eq_getElem Ga];show [(pOff (l[k - 1]).q+16,0)]=_;rw [<- hc];unfold pAt;rw [if_neg oM]
 ·have Gb:z0h (l.drop k)=[]:=by rw [List.drop_of_length_le oM];rfl
  have e1:prU c (z0h (l.drop k))=[]:=by unfold prU;rw [if_pos (.inl Gb)]
  refine ⟨by rw [decide_eq_true Gb,decide_eq_false (fun h:k=0/\0 < l.length=>oM)];rfl,fun h=>absurd h oM,fun _=>?_,fun _=>e1,fun _ h=>absurd h hk⟩;rw [e1];unfold cutU;rw [if_neg hk]
theorem w4t {l:List DR} {k:Nat} {rl:List RV} (h:BgIs l k rl):∀ r∈rl,r.v.p.length<=500:=fun r hr=>by
 have h1:(r.v.st,r.v.dl,r.v.p)∈rl.reverse.map (fun r=>(r.v.st,r.v.dl,r.v.p)):=List.mem_map.2 ⟨r,List.mem_reverse.2 hr,rfl⟩;rw [h.2] at h1;obtain ⟨j,_,e⟩:=List.mem_map.1 h1;injection e with _ e
 injection e with _ e
 rw [<- e];split
 ·simp
 ·rw [List.length_take]
  omega
theorem w7m {w0 w:World} {gh:Nat} {z:HP} {l:List DR} {k:Nat} {rl:List RV} (hj:HsJ w0 k gh rl (vvs rl) z w) (h:BgIs l k rl):∀ r∈rl,r.v.bl.length<=2:=fun r hr=>by
 obtain ⟨Ga,hv⟩:=hj.hist.ver r.v (by unfold vvs;exact List.mem_map.2 ⟨r,hr,rfl⟩);have h1:=hv.blen;have h2:=y0l (w4t h r hr);split at h1 <;> omega
def w7f (W:World) (gb:Bool) (pu:List (Nat × Nat)) (ql:List Nat) (e:Ending) (w':World):Prop:=∃ A0 n0 A m c,e=.returned (.tuple #[.slice A0 n0 n0,.slice A m c,.bool gb,.int .i64 0])/\Hid (n0=pu.length/\z0c w' w'.heap.size 2 A0 n0 (z0d pu)/\(A0=none->n0=0)/\m=ql.length/\z0c w' w'.heap.size 1 A m (z0a ql)/\Blw W w')
structure VqA (w0:World) (gh gw d old nl kk:Nat) (gb:Bool) (pu us:List (Nat × Nat)) (ql:List Nat) (rl:List RV) (w2:World):Prop where
 h0:∀ W,Blw w2 W->W.cell? ⟨gh,0,none⟩=some (.pointer (some ⟨gw,0,none⟩))
 h3:∀ W,Blw w2 W->W.cell? ⟨gw,3,none⟩=some (.pointer (some ⟨d,0,none⟩))
 lk:∀ W,Blw w2 W->Calls Tryz.prog 33 #[.pointer (some ⟨gw,0,none⟩),.int .i64 0] W fun e w'=>e=.returned (.int .u64 (hdQ (vvs rl):Int))/\w'=W.drew
 pr:∀ W,Blw w2 W->Calls Tryz.prog 47 #[.iface 59 (.pointer (some ⟨d,0,none⟩)),.int .u64 (hdQ (vvs rl):Int),.int .u64 old] W (w7f W gb pu ql)
 kp:∀ W,Blw w2 W->∀ (A:Option Addr) (c:Nat),z0c W W.heap.size 5 A nl (z0u rl)->Calls Tryz.prog 48 #[.slice A nl c,.int .u64 old] W fun e w'=>e=.returned (.int .i64 kk)/\Blw W w'
 pb:∀ W,Blw w2 W->∀ (A0 A2:Option Addr) (n0 c0 n2 c2:Nat),z0c W W.heap.size 2 A0 n0 (z0d us)->(A0=none->n0=0/\c0=0)->z0c W W.heap.size 1 A2 n2 (z0a ql)->Calls Tryz.prog 54 #[.pointer (some ⟨d,0,none⟩),.slice A0 n0 c0,.slice none 0 0,.slice A2 n2 c2] W fun e w'=>e=.returned (.int .i64 0)/\∃ k' z',HsJ w0 k' gh rl ((vvs rl).take kk) z' w'/\z'.y.g=gw
 nlen:nl=rl.length/\nl<=8/\kk<=nl
 gbd:gb=decide (kk=0/\0 < nl)
 c1:(kk=0/\0 < nl)->us=[(3328,0)]/\pu=[]
 c2:¬ (kk=0/\0 < nl)->us=pu
 c3:¬ (0 < kk/\kk < nl)->pu=[]
 c4:0 < kk->kk < nl->∀ (h:kk - 1 < rl.length),pu=[(pAt (rl[kk - 1]).v.q 2,0)]
 qlen:ql=z0h ((vvs rl).drop kk)/\ql.length<=24
 kdef:kk=z0t old (vvs rl)
 bl2:∀ r∈rl,r.v.bl.length<=2
 desc:Desc rl
 sp:∀ r∈rl,r.v.st<=4611686018427387903
theorem w8y {w0 w2:World} {k gh old:Nat} {l:List DR} {rl:List RV} {z:HP} (hj:HsJ w0 k gh rl (vvs rl) z w2) (hb:BgIs l k rl) (hl8:rl.length<=8) (hk:k<=8) :
  ∃ kk gb pu us ql,VqA w0 gh z.y.g z.y.d old rl.length kk gb pu us ql rl w2:=by
 have HC:=w3z hj hl8;have Gh:(vvs rl).length=rl.length:=by unfold vvs;rw [List.length_map]
 have Gf:=z7r old (vvs rl);have Gb:=w7m hj hb;obtain ⟨f1,f2⟩:=x2y hj hl8 Gb (z0t old (vvs rl));obtain ⟨u1,u2,u3,u4,u5⟩:=w2n hj.hist old;have Gg:=z4r (vvs rl) (z0t old (vvs rl));have Gc:=hj.ali.2;rw [Gg,List.map_append,List.nodup_append] at Gc;refine ⟨z0t old (vvs rl),(!decide (z0h ((vvs rl).drop (z0t old (vvs rl)))=[]) && decide (cutV old 0 (vvs rl)=0)),prU (cutV old 0 (vvs rl)) (z0h ((vvs rl).drop (z0t old (vvs rl)))),cutU (vvs rl) (z0t old (vvs rl)),z0h ((vvs rl).drop (z0t old (vvs rl))),HC.h0,HC.h3,HC.lk,fun W hW=>?_,fun W hW A c hr=>x8r A _ c rl old W hr oM,fun W hW A0 A2 n0 c0 n2 c2 r0 r00 r2=>?_,⟨rfl,hl8,oM⟩,by rw [u1,Gh],fun h=>u2 ⟨h.1,oM⟩,fun h=>u3 (fun h'=>h ⟨h'.1,oM⟩),fun h=>u4 (fun h'=>h ⟨h'.1,oM⟩),fun g1 g2 g3=>?_,⟨rfl,f1⟩,rfl,Gb,HC.desc,HC.sp⟩
 ·have Ga:=hj.below_ hW
  obtain ⟨fo,Ge⟩:=x6z old (z1b 373 z.cur (fun q=>chkR 53 10 z.cs q 1)) (vvs rl) 0 [] (fun v hv=>by
   obtain ⟨Gd,h2⟩:=Ga.hist.ver v hv;exact h2.bof Ga.bw.sd.ds)
  have hX:=Ga.hist.fol (prS old (z1b 373 z.cur (fun q=>chkR 53 10 z.cs q 1))) oM ⟨false,0,[],0⟩;rw [Ge,List.nil_append] at hX;refine (x0n Ga.bw.sd (hdQ (vvs rl)) old Ga.hist.hd64 fo _ _ hX).mono ?_;rintro e w' ⟨A0,n0,A,m,c,e1,e2,e3,e4,e5,e6,_,_,_,e7⟩;exact ⟨A0,n0,A,m,c,e1,hid ⟨e2,e3,e4,e5,e6,e7⟩⟩
 ·have Ga:=hj.below_ hW
  have hp:=x2a Ga.bw.sd oM A0 none A2 n0 c0 0 0 n2 c2 (cutU (vvs rl) (z0t old (vvs rl))) [] (z0h ((vvs rl).drop (z0t old (vvs rl)))) r0 r00 ⟨rfl,fun h=>absurd h (Nat.lt_irrefl 0)⟩ r2 (fun ad h=>by cases h) (fun p hp=>absurd hp (by simp)) (y7g Ga.hist) (by rw [List.nil_append];exact Gc.2.1) (x6o Ga.bw.sd.ds Ga.hist _) (by have:=w0u (vvs rl) (z0t old (vvs rl));rw [List.length_nil];omega) (by have:=Ga.tm;omega) (by have:=Ga.nm;omega);refine hp.mono (fun e w' h=>?_);obtain ⟨h1,z',h2,h3,_⟩:=Ga.pruned Gf h;exact ⟨h1,_,z',h2,by rw [h3]⟩
 ·rw [u5 g1 oM,List.getElem?_eq_getElem (show z0t old (vvs rl) - 1 < (vvs rl).length by omega)]
  have e:(vvs rl)[z0t old (vvs rl) - 1]'oM=(rl[z0t old (vvs rl) - 1]).v:=List.getElem_map RV.v;rw [e];rfl
end
end Go.Proofs.YtfkjjoglnmeciaaGreatDoor

/- part 14 -/
import Derived.Test.YtfkjjoglnmeciaaGreatDoorMam
import Derived.Lib.QuoteBits
set_option maxRecDepth 100000
set_option maxHeartbeats 16000000
namespace Go.Proofs.YtfkjjoglnmeciaaGreatDoor
open Go.Lib (hid)
section
open Go.RowKit
def zerW (o k:Nat):List (Nat × Nat):=(List.range k).map fun j=>(o+8 * j,0)
theorem x9s (o k:Nat):zerW o (k+1)=zerW o k++[(o+8 * k,0)]:=by simp [zerW,List.range_succ]
theorem y5o (o k:Nat):(zerW o k).length=k:=by simp [zerW]
theorem z6n {o k:Nat} {e:Nat × Nat} (h:e∈zerW o k):∃ j,j < k/\e=(o+8 * j,0):=by
 obtain ⟨j,hj,rfl⟩:=List.mem_map.1 h;exact ⟨j,List.mem_range.1 hj,rfl⟩
theorem x2o {a:DA} {L T:Nat} {w:World} {S:Fp} {cur:Nat->Nat} (h:Dev a L T w S cur 0) (hp:Pay w) (g:Nat) (hcs:Array Value) (hB:Blk w g 194 hcs) (hc0:hcs[0]?=some (memV a)) (hgS:¬ S g) (p cl O:Nat) (hc:cl < 5) (hp0:p≠0) (hO:pOff p=O) (hOL:O+8 * payW cl<=64 * L) (hT:T+200<=1000000000) :
  Calls Tryz.prog 349 #[.pointer (some ⟨g,0,none⟩),.int .u64 p,.int .i64 cl] w (z2c a L (T+200) w S (wrS cur (zerW O (payW cl))) 0 (.int .i64 0)):=by
 have hL:L<=4096:=by obtain ⟨ls,GF,GN,cs,GM,G8,GI⟩:=h;exact G8.hL
 have GG:O % 8=0:=by rw [<- hO];unfold pOff;omega
 have HD:=hid h;have Gb:=hid hB;have Gg:w.cell? ⟨g,0,none⟩=some (memV a):=(hB.cell 0).trans hc0;have Ge:=hid hc0;obtain ⟨i0,G9,GC,GD,GE⟩:=info_parts z2i;have G7:=hid (z6y cl hc w hp);have GB:=z5k cl;have Gj:Hid (∀ j,j < payW cl->∀ W,Calls Tryz.prog 49 #[.int .u64 p,.int .i64 j] W fun e w'=>e=.returned (.int .u64 ((O+8 * j:Nat):Int))/\W=w'):=hid (fun j hj W=>by
  have h1:=z8w p j oM W;have h2:pAt p j=O+8 * j:=by unfold pAt;rw [if_neg oM,hO]
  rw [h2] at h1;exact h1)
 have Gt:=hid (fun k=>x9s O k);have Gk:Hid (Blw w w):=Below.refl _ _;have Gp:Hid (w.ownsRow w.heap.size 114 2 (.slice none 0 0) 0 (z0d (zerW O 0))):=World.ownsRow_nil _ _ _ _;have GA:0 < payW cl:=oM;have Gf:Hid (∀ W A m c p',Blw w W->W.ownsRow w.heap.size 284 3 (.slice A m c) m (z0j p')->z0y (zerW O (payW cl)) p'->Calls Tryz.prog 78 #[.slice A m c,memV a] W (z2c a L (T+200) W S (wrS cur (zerW O (payW cl))) 0 (.int .i64 0))):=hid (fun W A m c p' hW ho hp'=>by
  refine (z8l (h.below hW) ho h.lt hp' (fun e he=>?_) (by rw [y5o];omega) (by rw [y5o];omega)).mono ?_
  ·obtain ⟨j,hj,rfl⟩:=z6n he
   exact ⟨by show (O+8 * j) % 8=0;omega,by show O+8 * j < 64 * L;omega,by show 0 < _;omega⟩
  ·rintro e w' ⟨he,S',hd,hc,hg⟩
   exact ⟨he,S',hd.more (by rw [y5o];omega) oM,hc,hg⟩)
 clear h hB hp hO hp0 hc0 hc;generalize payW cl=q at *;unfold memV at *;go_enter Tryz.func349,Tryz.ntmps349
 go_wp2_with (go_at_call 202;refine G7.out.mono ?_;rintro e w1 ⟨rfl,rfl⟩)
 go_loopw [7,11] (fun v i wr=>∃ (k:Nat) (A1:Option Addr) (m1 c1:Nat),k<=q/\i=.int .i64 k/\v=.slice A1 m1 c1/\m1=k/\Hid (wr.ownsRow w.heap.size 114 2 (.slice A1 m1 c1) m1 (z0d (zerW O k)))/\Hid (Blw w wr)) (fun _ i _=>q - (RowKit.intOf i).toNat)
 case atStart=>exact ⟨0,_,_,_,Nat.zero_le _,rfl,rfl,rfl,Gp,Gk⟩
 case round =>
  clear Gk Gp Gg;obtain ⟨k,A1,m1,c1,hk,rfl,rfl,Ga,HO,H⟩:=hrel;by_cases hlt:k < q
  ·have GK:(0:Int)<=(k:Int):=oM
   have GL:(k:Int) < (q:Int):=oM;have GH:m1<=60:=oM;have HM:=hid Ga;have HA:=hid (Gj.out k hlt);have G1:Hid (z0d (zerW O k)++[.int .u64 ((O+8 * k:Nat):Int),.int .u64 0]=z0d (zerW O (k+1))):=hid (by rw [Gt.out];simp [z0d]);have GJ:O+8 * k < 9000000000:=oM;generalize O+8 * k=y at *;have Gn:=hid H.out.size;have G6:=hid (HO.out.alloc (.cells #[.int .u64 y,.int .u64 0] 114));have Gy:=hid (H.out.alloc H.out.size (.cells #[.int .u64 y,.int .u64 0] 114));clear H HO Ga;go_wp2_with (first
    | (go_at_call 49;refine (HA.out _).mono ?_;rintro e w1 ⟨rfl,rfl⟩)
    | (at_builtin;refine z0p _ (.tmp 14) (.tmp 19) 108 rfl rfl w.heap.size 114 i0 _ 2 16 Tryz.underlying108 G9 GC GD GE rfl ?q1 (.slice A1 m1 c1) m1 (z0d (zerW O k)) rfl G6.out (wr.heap.size+1) (some ⟨wr.heap.size,0,none⟩) 1 1 [.int .u64 y,.int .u64 0] rfl ?q5 ?q6 ?q2 ?q3 ?q4 ?_;(case q1=>omega);(case q5=>exact z0m _ _ rfl _ 1 2 114 _ rfl rfl);(case q6=>(intro u hu;simp at hu;rcases hu with rfl | rfl <;> rfl));(case q2=>(unfold maxLen;omega));(case q3=>omega);(case q4=>(have:=Gn.out;simp;omega));intro A3 n3 c3 w8 hn3 ho3 Gd hb3;have G4:=hid hn3;have G5:=hid ho3;have Gm:=hid (Gy.out.trans hb3);clear hn3 ho3 Gd hb3)
    | go_in)
   have b1:n3=k+1:=by have:=G4.out;have:=HM.out;omega
   have Gq:Hid (w8.ownsRow w.heap.size 114 2 (.slice A3 n3 c3) n3 (z0d (zerW O (k+1)))):=hid (by have h:=G5.out;rw [G1.out] at h;exact h);go_roundw
   case rel =>
    first
     | exact ⟨k+1,_,_,_,oM,by go_num,rfl,b1,Gq,Gm⟩
     | (
       repeat apply Exists.intro
       refine ⟨?_,rfl⟩;exact ⟨k+1,_,_,_,oM,by go_num,rfl,b1,Gq,Gm⟩)
   case measure=>simp [RowKit.intOf];omega
  ·obtain rfl:q=k:=oM
   subst Ga;have Gn:=hid H.out.size;have Gs:Hid (∀ W,Blw wr W->Calls Tryz.prog 105 #[.slice A1 m1 c1] W (z2s w (z0y (zerW O m1)))):=hid (fun W hW=>by
    refine (z1q A1 m1 c1 (zerW O m1) W (((z0c.of_own HO.out).below hW).more hW.size) GA oM (fun e he=>by obtain ⟨j,hj,rfl⟩:=z6n he;show O+8 * j < _;omega)).mono ?_;intro e w' hr;exact z2s.back (H.out.trans (hW.mono H.out.size)) hr)
   have G3:=hid (Gb.out.below H.out Gb.out.lt);clear HO Gj Gt HD;go_wp2_with fail
   have Gu:wr.cell? ⟨g,0,none⟩=some (.iface 58 (.pointer (some ⟨a.th 0,0,none⟩))):=(G3.out.cell 0).trans Ge.out;refine z0k (fun w'=>w'.cell? ⟨g,0,none⟩=some (.iface 58 (.pointer (some ⟨a.th 0,0,none⟩)))) 7 [(true,0),(true,2),(true,3),(true,4),(true,5),(false,1),(false,6)] (by kernel_rfl) (by kernel_rfl) Gu ?_;clear Gu;refine tkS (.slice A1 m1 c1) (fun w' hS=>?_) ?_
   ·go_simp
   refine tkS (.pointer (some ⟨g,0,none⟩)) (fun w' hS=>?_) ?_
   ·go_simp
   refine tkS (.pointer (some ⟨g,0,none⟩)) (fun w' hS=>?_) ?_
   ·go_simp
   refine tkS (.pointer (some ⟨g,0,none⟩)) (fun w' hS=>?_) ?_
   ·go_simp
   refine tkS (.iface 58 (.pointer (some ⟨a.th 0,0,none⟩))) (fun w' hS=>?_) ?_
   ·go_simp
   refine z0l (by rfl) ?_;go_wp2_with fail
   refine (Gs.out _ (Below.refl _ _).drew).mono ?_;rintro e w2 ⟨A2,m2,c2,p2,rfl,Gx,Gw,Gc⟩;have Gr:=hid (Gf.out w2 A2 m2 c2 p2 Gc Gw Gx);have Gl:=hid Gc;have Gi:=Gb.out.below Gc Gb.out.lt;have Gz:=hid ((Gi.cell 0).trans Ge.out);have G2:=hid Gi;clear Gx Gw Gc Gi Gs;go_wp2_with fail
   refine ⟨Gz.out,?_⟩;refine z0l (by rfl) ?_;go_wp2_with fail
   refine Gr.out.mono ?_;rintro e w3 ⟨rfl,S3,Gv,Gh,Gd⟩;have HE:=hid (show Dev a L (T+200) w3 S3 (wrS cur (zerW O m1)) 0/\Chg S w w3/\Grew S S3 w from ⟨Gv,(Chg.of_below Gl.out).trans Gh (Grew.refl _ _),fun k hk=>(Gd k hk).imp id (fun h=>Nat.le_trans Gl.out.size h)⟩);have G0:=hid (((Gh.blk G2.out hgS).cell 0).trans Ge.out);clear Gv Gh Gd Gr hgS;go_wp2_with fail
   refine ⟨G0.out,?_⟩;show wpList _ _ _ _ _ _;simp only [List.drop_succ_cons,List.drop_zero];go_wp2_with fail
   refine NoPanic.normal ?_;go_wp2;go_ret;exact ⟨rfl,S3,HE.out.1,HE.out.2.1,HE.out.2.2⟩
theorem w2m {a:DA} {s K:Nat} {x:PA} {cs:Nat->CS} {w:World} (h:Plc a s K x cs w) (_hK:K<=128) (_hs:s<=100000) (hf:∃ k,k < K/\(cs k).dv=false) :
  Calls Tryz.prog 396 #[.pointer (some ⟨x.gs,0,none⟩)] w fun e w'=>∃ k,k < K/\(cs k).dv=false/\e=.returned (.tuple #[.pointer (some ⟨x.pl,x.po+k * 4,none⟩),.int .i64 0])/\w=w':=by
 obtain ⟨c,_,f1⟩:=h.sets;have HP:=hid h;have HF:=hid hf;clear h hf;obtain ⟨gs,pl,po⟩:=x;dsimp only at *;go_enter Tryz.func396,Tryz.ntmps396
 go_wp2;go_loopw [15] (fun i wr=>∃ (k:Nat),k<=K/\i=.int .i64 k/\Hid (∀ j,j < k->(cs j).dv=true)/\w=wr) (fun i _=>K - (RowKit.intOf i).toNat)
 case atStart=>exact ⟨0,Nat.zero_le _,rfl,hid (fun j hj=>oM),rfl⟩
 case round =>
  obtain ⟨k,hk,rfl,HA,rfl⟩:=hrel;by_cases hlt:k < K
  ·obtain ⟨f0,f2,f3,b4,f4⟩:=HP.out.facts (k:=k) hlt
   dsimp only at f0 f2 f3 f4;have Gb:(0:Int)<=(k:Int):=oM;have Gc:(k:Int) < (K:Int):=oM;unfold CS.cls at f2;by_cases hd:(cs k).dv=true
   ·rw [if_pos hd] at f2
    have hq:decide (((cs k).cl:Int) < 0)=false:=dF;have Ga:Hid (∀ j,j < k+1->(cs j).dv=true):=hid (fun j hj=>by
     by_cases e:j=k
     ·rw [e];exact hd
     ·exact HA.out j oM)
    generalize (cs k).cl=v at *;clear hd HA;go_wp2;go_roundw
    case rel =>
     first
      | exact ⟨k+1,oM,by go_num,Ga,trivial⟩
      | exact ⟨k+1,oM,by go_num,Ga,rfl⟩
      | (
        repeat apply Exists.intro
        refine ⟨?_,rfl⟩;exact ⟨k+1,oM,by go_num,Ga,rfl⟩)
    case measure=>simp [RowKit.intOf];omega
   ·rw [if_neg hd] at f2
    have HD:Hid ((cs k).dv=false):=hid (by simpa using hd);clear hd HA;go_wp2;go_ret2;exact ⟨k,hlt,HD.out,rfl,rfl⟩
  ·exfalso
   obtain ⟨k0,h1,h2⟩:=HF.out;have:=HA.out k0 oM;rw [h2] at this;cases this
end
section
open Go.RowKit Go.Maps
def csN:CS:=⟨false,0,1,0,fun _=>⟨1,0,176⟩⟩
end
section
open Go.RowKit
theorem y0h (n:Nat) (hn:n<=100000) (w:World) (hp:Pay w):Calls Tryz.prog 104 #[.int .i64 n] w fun e w'=>e=.returned (.int .i64 (z1c n:Int))/\w=w':=by
 by_cases h:456 < n
 ·have hb:z1c n=60:=by unfold z1c;rw [if_pos h]
  have d1:decide ((456:Int) < (n:Int))=true:=dT;have d2:(456:Int) < (n:Int):=oM;rw [hb];clear hb;go_enter Tryz.func104,Tryz.ntmps104
  go_wp2;go_ret;exact ⟨rfl,rfl⟩
 ·have hb:z1c n=payW (z1e (3+(n+7) / 8)):=by unfold z1c;rw [if_neg h]
  have d1:decide ((456:Int) < (n:Int))=false:=dF;have HC:=hid (y6c (3+(n+7) / 8) oM oM w hp);have HW:=hid (z6y (z1e (3+(n+7) / 8)) (z7g _) w hp);obtain ⟨c,hc⟩:∃ c,3+(n+7) / 8=c:=⟨_,rfl⟩
  have v1:(3:Int)+((n:Int)+8 - 1) / 8=(c:Int):=oM;have v2:wrap64 (3+((n:Int)+8 - 1) / 8)=(c:Int):=by rw [v1];exact IntWalk.wrap64_in _ oM
  rw [hc] at HC HW hb;rw [hb];clear hb hc;go_enter Tryz.func104,Tryz.ntmps104
  go_wp2_with (first
   | (go_at_call 201;refine HC.out.mono ?_;rintro e w1 ⟨rfl,rfl⟩)
   | (go_at_call 202;refine HW.out.mono ?_;rintro e w1 ⟨rfl,rfl⟩))
  go_ret;exact ⟨rfl,rfl⟩
def uA (l:List Nat):Array Value:=(z0a l).toArray
theorem x0l {l:List Nat} {i:Nat} (h:i < l.length):(uA l)[i]?=some (.int .u64 (l[i]:Int)):=by
 unfold uA z0a;simp [h]
theorem x2j {l:List Nat} {i v:Nat}:(uA l).setIfInBounds i (.int .u64 v)=uA (l.set i v):=by
 unfold uA z0a;simp [List.map_set]
theorem y5i {w:World} {g:Nat} {l:List Nat} (h:Blk w g 32 (uA l)):z0c w w.heap.size 1 (some ⟨g,0,none⟩) l.length (z0a l) :=
 z3j h (by simp [z0a]) (fun j u hu=>by unfold uA;simpa using hu)
def x5q (w:World) (g:Nat) (l:List Nat) (e:Ending) (w':World):Prop:=e=.returned (.tuple #[])/\Blk w' g 32 (uA (l.take (l.length - 1)++[sumW (l.take (l.length - 1))]))/\Chg (fun k=>k=g) w w'
theorem x8x (g n c:Nat) (l:List Nat) (w:World) (h:Blk w g 32 (uA l)) (hl:l.length=n) (h1:1<=n) (hn:n<=1000) (hc:n<=c) (_hc2:c<=100000) (hx:∀ x∈l,x < 18446744073709551616) (ht:Tab w) :
  Calls Tryz.prog 205 #[.slice (some ⟨g,0,none⟩) n c] w (x5q w g l):=by
 obtain ⟨j,rfl⟩:∃ j,n=j+1:=⟨n - 1,oM⟩
 have hR:=y5i h;rw [hl] at hR;have hS:=y1j hR (k:=0) (m:=j) oM oM oM;rw [List.drop_zero,Nat.add_zero,Nat.sub_zero] at hS;have HW:=hid (y3o (some ⟨g,0,none⟩) j c w.heap.size (l.take j) w hS (fun x hx'=>hx x (List.mem_of_mem_take hx')) oM ht);have e1:l.length - 1=j:=oM;have hv:sumW (l.take j) < 18446744073709551616:=by have:=x0i (l.take j);omega
 have HF:Hid (x5q w g l (.returned (.tuple #[])) (w.setCell ⟨g,j,none⟩ (.int .u64 (sumW (l.take j):Int)))):=hid (by
  refine ⟨rfl,?_,(Chg.refl (fun k=>k=g) w).setCell (p:=⟨g,j,none⟩) (.inl rfl) _⟩;have h2:=h.set_ j (.int .u64 (sumW (l.take j):Int));rw [x2j] at h2;rw [e1];have e2:l.set j (sumW (l.take j))=l.take j++[sumW (l.take j)]:=by
   apply List.ext_getElem
   ·simp;omega
   ·intro i h1 h2
    rw [List.getElem_set];by_cases e:j=i
    ·subst e
     rw [if_pos rfl,List.getElem_append_right (by simp;omega)];simp
    ·rw [if_neg e,List.getElem_append_left (by simp at h1 ⊢;omega)]
     simp
  rw [<- e2];exact h2)
 have w1:wrap64 (((j+1:Nat):Int) - 1)=(j:Int):=by rw [IntWalk.wrap64_in _ oM];omega
 have w2:((j+1:Nat):Int) - 1=(j:Int):=oM;have w3:(j:Int) < ((j+1:Nat):Int):=oM;have w4:(0:Int)<=(j:Int):=oM;have w5:(j:Int)<=(c:Int):=oM;have z1:w.frozen? ⟨g,j,none⟩=false:=h.frozen _;have q1:w.cell? ⟨g,j,none⟩=some (.int .u64 (l[j]:Int)):=by rw [h.cell];exact x0l oM
 generalize l[j]=lj at *;generalize sumW (l.take j)=sm at *;have Ga:sm < 4294967296\/4294967296<=sm:=oM;generalize hN:j+1=n at *;clear h hR hS hl hN e1;go_enter Tryz.func205,Tryz.ntmps205
 go_wp2_with (go_at_call 249;refine HW.out.mono ?_;rintro e w1 ⟨rfl,rfl⟩)
 go_end0;exact HF.out
def z8v (w:World) (l:List Nat) (rest:Nat) (e:Ending) (w':World):Prop:=if z4j l rest=0 then RetB w (z5n l rest) e w' else e=.returned (.tuple #[.slice none 0 0,.int .i64 (z4j l rest:Int)])/\Blw w w'
theorem w2g (A:Option Addr) (n c rest:Nat) (l:List Nat) (w:World) (h:z0c w w.heap.size 1 A n (z0a l)) (hx:∀ x∈l,x < 18446744073709551616) (ht:Tab w) (hn:n<=60) (hc:n<=c) (_hc2:c<=1000) (hu:z6o rest < n) (hr:rest<=2000) :
  Calls Tryz.prog 223 #[.slice A n c,.int .i64 rest] w (z8v w l rest):=by
 have Gj:l.length=n:=by have:=h.1;simp [z0a] at this;omega
 obtain ⟨j,hj⟩:∃ j,n=j+1:=⟨n - 1,oM⟩
 subst hj;obtain ⟨G0,b,Ga,hA,GF,f0⟩:=z2b h (k:=j) oM;subst hA;obtain ⟨G2,b',GC,Gq,_,g0⟩:=z2b h (k:=0) oM;injection Gq with Gq
 injection Gq with h1 h2
 subst h1 h2;rw [Nat.add_zero] at g0;have hS:=y1j h (k:=0) (m:=j) oM oM oM;rw [List.drop_zero,Nat.add_zero,Nat.sub_zero] at hS;have G7:∀ x∈l.take j,x < 18446744073709551616:=fun x hx'=>hx x (List.mem_of_mem_take hx')
 have Gw:=hid (y3o (some ⟨b,Ga,none⟩) j c w.heap.size (l.take j) w.drew hS G7 oM ht);have GJ:=x0i (l.take j);have HE:Hid (z4j l rest=if l[j]≠sumW (l.take j) then 10 else if decide (456 < rest)≠decide (l[0]≠0) then 11 else if ((l.take j).drop (z6o rest)).any (fun x=>decide (x≠0))=true then 11 else if z4o ((l.take (z6o rest)).drop 2) (min rest 456)=true then 11 else 0):=hid (by
  unfold z4j;have e1:l.getD (l.length - 1) 0=l[j]:=by rw [Gj,Nat.add_sub_cancel,List.getD_eq_getElem?_getD,List.getElem?_eq_getElem G0];rfl
  have e2:l.getD 0 0=l[0]:=by rw [List.getD_eq_getElem?_getD,List.getElem?_eq_getElem G2];rfl
  rw [e1,e2,Gj,Nat.add_sub_cancel])
 have HX:=hid hx;have HH:=hid h;have GM:=hx _ (List.getElem_mem G0);have Gf:=hx _ (List.getElem_mem G2);have HL:=hid Gj;clear h hx hS G7 Gj;generalize l[j]=xj at *;generalize l[0]=x0 at *;generalize hsm:sumW (l.take j)=sm at *;have GE:=hid hsm;clear hsm;have w1:wrap64 (((j+1:Nat):Int) - 1)=(j:Int):=by rw [IntWalk.wrap64_in _ oM];omega
 have w2:((j+1:Nat):Int) - 1=(j:Int):=oM;have w3:(j:Int) < ((j+1:Nat):Int):=oM;have w4:(0:Int)<=(j:Int):=oM;have w5:(j:Int)<=(c:Int):=oM;have w6:(0:Int) < ((j+1:Nat):Int):=oM;have w7:((0:Nat):Int) < ((j+1:Nat):Int):=oM;generalize hN:j+1=n at *;have HN:=hid hN;clear hN;go_enter Tryz.func223,Tryz.ntmps223
 go_upto_region 2 with fail
 refine z0g (fun w'=>w'=w.drew) 9 [] [(1,0),(1,1),(1,2),(1,3),(1,4),(1,5),(1,6),(0,7),(0,8)] (by kernel_rfl) (by kernel_rfl) rfl ?_;refine tkG (.slice (some ⟨b,Ga,none⟩) n c) ?_;refine tkG (.int .i64 j) ?_;refine tkG (.pointer (some ⟨b,Ga+j,none⟩)) ?_;refine tkH (.int .u64 xj) (fun w' hS=>?_) ?_
 ·subst hS
  go_simp
 refine tkG (.slice (some ⟨b,Ga,none⟩) n c) ?_;refine tkG (.int .i64 j) ?_;refine tkG (.slice (some ⟨b,Ga,none⟩) j c) ?_;refine z0b (by rfl) ?_;go_wp2_with (go_at_call 249;refine Gw.out.mono ?_;rintro e w1 ⟨rfl,rfl⟩)
 refine ⟨rfl,?_⟩;refine z0b (by rfl) ?_;go_wp2_with fail
 refine ⟨rfl,?_⟩;show wpList _ _ _ _ _ _;simp only [List.drop_succ_cons,List.drop_zero];clear Gw;by_cases c1:xj=sm
 ·have d1:((xj:Int) != (sm:Int))=false:=by rw [bne,beq_iff_eq.2 oM];rfl
  have Gc:=hid c1;clear c1;by_cases c2:decide (456 < rest)=decide (x0≠0)
  ·have d2:(decide ((456:Int) < (rest:Int)) == ((x0:Int) != 0))=true:=by
    have e1:decide ((456:Int) < (rest:Int))=decide (456 < rest):=by
     by_cases h:456 < rest
     ·rw [decide_eq_true h,dT]
     ·rw [decide_eq_false h,dF]
    have e2:((x0:Int) != 0)=decide (x0≠0):=by
     by_cases h:x0=0
     ·subst h;rfl
     ·rw [decide_eq_true h,bne,beq_eq_false_iff_ne.2 oM];rfl
    rw [e1,e2,c2];exact beq_self_eq_true _
   have Gg:=hid c2;clear c2;obtain ⟨nn,Gk⟩:∃ nn,min rest 456=nn:=⟨_,rfl⟩
   have m1:min (rest:Int) 456=(nn:Int):=oM;obtain ⟨u9,Gu⟩:∃ u9,z6o rest=u9:=⟨_,rfl⟩
   have G6:u9=2+(nn+7) / 8:=by rw [<- Gu,<- Gk];rfl
   have G9:nn<=456:=oM;have G8:(0:Int)<=(nn:Int):=oM;have v1:(2:Int)+((nn:Int)+8 - 1) / 8=(u9:Int):=oM;have v2:wrap64 (2+((nn:Int)+8 - 1) / 8)=(u9:Int):=by rw [v1];exact IntWalk.wrap64_in _ oM
   have GL:u9<=j:=oM;have v3:(u9:Int)<=(j:Int):=oM;have Gh:=hid Gu;have Gv:=hid Gk;have Gn:=hid G6;clear Gu G6 m1;go_wp2_with fail
   refine NoPanic.normal ?_;go_upto_region 4 with fail
   go_upto_region 6 with fail
   go_cut [7] from 31 to 32 (fun x wx=>x=.int .i64 nn/\Hid (wx=w.drew))
   case first =>
    rcases Nat.lt_or_ge 456 rest with hc4 | hc4
    ·have Gt:nn=456:=oM
     subst Gt;have k1:decide ((456:Int) < (rest:Int))=true:=dT;have k2:decide ((rest:Int) < 456)=false:=dF;have k3:(456:Int)<=(rest:Int):=oM;clear Gk;go_wp2_with fail
     go_meet;exact ⟨rfl,hid rfl⟩
    ·have Gt:rest=nn:=oM
     subst Gt;have k1:decide ((456:Int) < (rest:Int))=false:=dF;have k3:(rest:Int)<=456:=oM;clear Gk;go_wp2_with fail
     go_meet;exact ⟨rfl,hid rfl⟩
   case rest =>
    obtain ⟨rfl,Ge⟩:=hcut;have hw:=Ge.out;subst hw;clear Ge;go_upto_region 7 with fail
    go_cut [8] from 33 to 37 (fun y wx=>y=.int .i64 u9/\Hid (wx=w.drew))
    case first =>
     go_wp2_with fail
     go_meet;exact ⟨rfl,hid rfl⟩
    case rest =>
     obtain ⟨rfl,Ge⟩:=hcut;have hw:=Ge.out;subst hw;clear Ge v1 v2;go_wp2;go_loopw [43] (fun i wr=>∃ k:Nat,k<=j - u9/\i=.int .i64 k/\Hid (((((l.take j).drop u9).take k).any fun x=>decide (x≠0))=false)/\Hid (w.drew=wr)) (fun i _=>(j - u9) - (Go.RowKit.intOf i).toNat)
     case atStart=>exact ⟨0,Nat.zero_le _,rfl,hid (by simp),hid rfl⟩
     case round =>
      obtain ⟨k,hk,rfl,HA,GB⟩:=hrel;have hw:=GB.out;subst hw;by_cases hlt:k < j - u9
      ·obtain ⟨G1,b2,GD,Gr,_,fk⟩:=z2b HH.out (k:=u9+k) (by have:=HN.out;omega)
       injection Gr with Gr
       injection Gr with h1 h2
       subst h1 h2;have Gs:((l.take j).drop u9)[k]?=some l[u9+k]:=by rw [List.getElem?_drop,List.getElem?_take_of_lt oM,List.getElem?_eq_getElem G1]
       have HT:Hid (((l.take j).drop u9).take (k+1)=((l.take j).drop u9).take k++[l[u9+k]]):=hid (by rw [List.take_add_one,Gs];rfl);have Gm:=hid Gs;have GN:=HX.out _ (List.getElem_mem G1);rw [<- Nat.add_assoc] at fk;generalize l[u9+k]=xk at *;have GO:(0:Int)<=(k:Int):=oM;have GP:(k:Int) < ((j - u9:Nat):Int):=oM;have GQ:(k:Int) < (j:Int) - (u9:Int):=oM;clear Gs;by_cases Gf:xk=0
       ·have d3:((xk:Int) != 0)=false:=by rw [bne,beq_iff_eq.2 oM];rfl
        have Gl:Hid (((((l.take j).drop u9).take (k+1)).any fun x=>decide (x≠0))=false):=hid (by rw [HT.out,List.any_append,HA.out];simp [Gf]);clear Gf HT Gm;go_wp2;go_roundw
        case rel =>
         first
          | exact ⟨k+1,oM,by go_num,Gl,hid True.intro⟩
          | exact ⟨k+1,oM,by go_num,Gl,hid rfl⟩
          | (
            repeat apply Exists.intro
            refine ⟨?_,rfl⟩;exact ⟨k+1,oM,by go_num,Gl,hid rfl⟩)
        case measure=>simp [Go.RowKit.intOf];omega
       ·have d3:((xk:Int) != 0)=true:=by rw [bne,beq_eq_false_iff_ne.2 oM];rfl
        have hE:Hid (z4j l rest=11):=hid (by
         rw [HE.out,if_neg (fun h=>h Gc.out),if_neg (fun h=>h Gg.out),if_pos];rw [Gh.out,List.any_eq_true];exact ⟨xk,List.mem_of_getElem? Gm.out,by simp [Gf]⟩)
        clear Gf HT Gm;go_wp2;go_ret2;unfold z8v;rw [hE.out,if_neg oM];exact ⟨rfl,(Below.refl _ _).drew⟩
      ·have Gx:Hid ((((l.take j).drop (z6o rest)).any fun x=>decide (x≠0))=false):=hid (by
        have h:=HA.out;rw [List.take_of_length_le (by rw [List.length_drop,List.length_take];omega)] at h;rw [Gh.out];exact h)
       have Gy:=y1j HH.out (k:=2) (m:=u9) (by have:=Gn.out;omega) (by have:=HN.out;omega) oM;have Gi:=hid (x5a (some ⟨b,Ga+2,none⟩) (u9 - 2) (c - 2) nn ((l.take u9).drop 2) w.drew ((Gy.below (Below.refl _ _).drew)) (fun x hx=>HX.out x (List.mem_of_mem_take (List.mem_of_mem_drop hx))) oM (by have:=Gn.out;omega));have GK:2<=u9:=by have:=Gn.out;omega
       have v4:(2:Int)<=(u9:Int):=oM;have v5:(u9:Int)<=(c:Int):=oM;have GG:decide ((k:Int) < ((j - u9:Nat):Int))=false:=dF;have GH:decide (k < j - u9)=false:=decide_eq_false hlt;have GI:decide ((k:Int) < (j:Int) - (u9:Int))=false:=dF;have G4:Hid (z4j l rest=if z4o ((l.take u9).drop 2) nn=true then 11 else 0):=hid (by
        rw [HE.out,if_neg (fun h=>h Gc.out),if_neg (fun h=>h Gg.out),if_neg (by rw [Gx.out];simp),Gh.out,Gv.out])
       have GA:Hid (z5n l rest=unpB ((l.take u9).drop 2) nn):=hid (by unfold z5n;rw [Gh.out,Gv.out]);clear Gy hlt Gx hk HE HA;generalize (l.take u9).drop 2=xs at *;by_cases hub:z4o xs nn=true
       ·have Gp:Hid (Calls Tryz.prog 309 #[.slice (some ⟨b,Ga+2,none⟩) (u9 - 2) (c - 2),.int .i64 nn] w.drew fun e w'=>e=.returned (.tuple #[.slice none 0 0,.int .i64 11])/\Blw w w'):=hid (Gi.out.mono (fun e w' h=>by unfold y2g at h;rw [if_pos hub] at h;exact ⟨h.1,(Below.refl _ _).drew.trans h.2⟩))
        have hE:Hid (z4j l rest=11):=hid (by rw [G4.out,if_pos hub]);clear Gi hub;go_wp2_with (go_at_call 309;refine Gp.out.mono ?_;rintro e w2 ⟨rfl,Gd⟩;have Gb:=hid Gd;clear Gd)
        go_ret2;unfold z8v;rw [hE.out,if_neg oM];exact ⟨rfl,Gb.out⟩
       ·have Gp:Hid (Calls Tryz.prog 309 #[.slice (some ⟨b,Ga+2,none⟩) (u9 - 2) (c - 2),.int .i64 nn] w.drew (RetB w.drew (unpB xs nn))):=hid (Gi.out.mono (fun e w' h=>by unfold y2g at h;rw [if_neg hub] at h;exact h))
        have hE:Hid (z4j l rest=0):=hid (by rw [G4.out,if_neg hub]);clear Gi hub;go_wp2_with (go_at_call 309;refine Gp.out.mono ?_;rintro e w2 ⟨A2,m2,c2,rfl,G3,G5,Gz,Gd⟩;have Gb:=hid (show _/\_/\_/\_ from ⟨G3,G5,Gz,Gd⟩);clear G3 G5 Gz Gd)
        go_ret2;unfold z8v;rw [hE.out,if_pos rfl,GA.out];exact ⟨A2,m2,c2,rfl,Gb.out.1,Gb.out.2.1,Gb.out.2.2.1,(Below.refl _ _).drew.trans Gb.out.2.2.2⟩
  ·have d2:(decide ((456:Int) < (rest:Int)) == ((x0:Int) != 0))=false:=by
    have e1:decide ((456:Int) < (rest:Int))=decide (456 < rest):=by
     by_cases h:456 < rest
     ·rw [decide_eq_true h,dT]
     ·rw [decide_eq_false h,dF]
    have e2:((x0:Int) != 0)=decide (x0≠0):=by
     by_cases h:x0=0
     ·subst h;rfl
     ·rw [decide_eq_true h,bne,beq_eq_false_iff_ne.2 oM];rfl
    rw [e1,e2];exact beq_eq_false_iff_ne.2 c2
   have Gg:=hid c2;clear c2;go_wp2;refine NoPanic.normal ?_;go_wp2;go_ret2;have hE:z4j l rest=11:=by rw [HE.out,if_neg (fun h=>h Gc.out),if_pos Gg.out]
   unfold z8v;rw [hE,if_neg oM];exact ⟨rfl,(Below.refl _ _).drew⟩
 ·have d1:((xj:Int) != (sm:Int))=true:=by rw [bne,beq_eq_false_iff_ne.2 oM];rfl
  have Gc:=hid c1;clear c1;go_wp2;refine NoPanic.normal ?_;go_wp2;go_ret2;have hE:z4j l rest=10:=by rw [HE.out,if_pos Gc.out]
  unfold z8v;rw [hE,if_neg oM];exact ⟨rfl,(Below.refl _ _).drew⟩
end
section
open Go.RowKit Go.Maps
def w4i (st:Nat->Nat) (n j:Nat) (z:Int):Prop:=(z = -1/\∀ i,j<=i->i < n->st i≠176)\/∃ i:Nat,z=(i:Int)/\j<=i/\i < n/\st i=176/\∀ i',j<=i'->i' < i->st i'≠176
theorem z7o (V:Nat):∀ (n j:Nat),(z2l V n j=none/\∀ i,j<=i->i < j+n->z1r V i=true)\/∃ i,z2l V n j=some i/\j<=i/\i < j+n/\z1r V i=false/\∀ i',j<=i'->i' < i->z1r V i'=true
 | 0,j => .inl ⟨rfl,fun i h1 h2=>oM⟩
 | n+1,j=>by
  cases hb:z1r V j
  ·exact .inr ⟨j,by simp [z2l,hb],nL _,oM,hb,fun i' h1 h2=>oM⟩
  ·rcases z7o V n (j+1) with ⟨h1,h2⟩ | ⟨i,h1,h2,h3,h4,h5⟩
   ·refine .inl ⟨by simp [z2l,hb,h1],fun i h3 h4=>?_⟩
    by_cases e:i=j
    ·rw [e];exact hb
    ·exact h2 i oM oM
   ·refine .inr ⟨i,by simp [z2l,hb,h1],oM,oM,h4,fun i' h6 h7=>?_⟩
    by_cases e:i'=j
    ·rw [e];exact hb
    ·exact h5 i' oM h7
theorem x3u {cur:Nat->Nat} {ln cl g V:Nat} {bs:Nat->BK} (h:ChW cur ln cl g V bs) (j:Nat):∃ z:Int,y6r V cl j=.int .i64 z/\w4i (fun i=>(bs i).st) (perC cl) j z:=by
 have hb:∀ i,i < perC cl->z1r V i=true->(bs i).st≠176:=fun i hi hh=>by
  have:=h.bit i hi;rw [hh] at this;simpa using this.symm
 unfold y6r;rcases z7o V (perC cl - j) j with ⟨h1,h2⟩ | ⟨i,h1,h2,h3,h4,h5⟩
 ·rw [h1]
  exact ⟨-1,rfl,.inl ⟨rfl,fun i hi hn=>hb i hn (h2 i hi oM)⟩⟩
 ·rw [h1]
  refine ⟨i,rfl,.inr ⟨i,rfl,h2,oM,?_,fun i' k1 k2=>hb i' oM (h5 i' k1 k2)⟩⟩;have:=h.bit i oM;rw [h4] at this;simpa using this.symm
section
variable {a:DA} {L T s n K:Nat} {x:HA} {cs:Nat->CS} {f:Nat->Option Nat} {N m b0:Nat} {S:Fp} {cur:Nat->Nat} {w w':World}
theorem DS.chw (h:DS a L T s n K x cs f N m b0 S cur w) {k:Nat} (hk:k < K) (hd:(cs k).dv=true):ChW cur (s+32 * k) (cs k).cl (cs k).g (cs k).V (cs k).bs:=by
 have:=h.ok k hk;unfold CSok at this;rw [hd] at this;exact this
def fptr (s:Nat) (cs:Nat->CS) (kind k i:Nat):Nat:=pMk (blkO (s+32 * k) (cs k).cl i) ((cs k).bs i).gen kind
def offO (s:Nat) (cs:Nat->CS) (k i:Nat):Nat:=blkO (s+32 * k) (cs k).cl i
def w0d (s:Nat) (cs:Nat->CS) (f:Nat->Option Nat) (kind k:Nat) (v:Value):Prop :=
 (v=.tuple #[.int .u64 0,.int .i64 5]/\∀ i,i < perC (cs k).cl->((cs k).bs i).st=176->f (offO s cs k i)≠none) \/
 ∃ i,i < perC (cs k).cl/\((cs k).bs i).st=176/\f (offO s cs k i)=none/\v=.tuple #[.int .u64 (fptr s cs kind k i:Int),.int .i64 0]
def witM (n:Nat):Value->Nat
 | .int _ (.ofNat i)=>n - i
 | _=>0
theorem y3n (h:DS a L T s n K x cs f N m b0 S cur w) {k:Nat} (hk:k < K) (hd:(cs k).dv=true) (kind:Nat) (hk0:0 < kind) (hk8:kind < 128) :
  Calls Tryz.prog 348 #[.pointer (some ⟨x.h,0,none⟩),.int .i64 ((s+32 * k:Nat):Int),.int .u8 kind] w fun e w'=>∃ v,e=.returned v/\w0d s cs f kind k v/\Blw w w':=by
 have hC:=h.chw hk hd;have hL:=h.hL;have Gb:=h.line hk;have HD:=hid h;have GN:=z2u (cs k).cl;have GC:Hid (∀ W,Blw w W->Calls Tryz.prog 195 #[memV a,.int .i64 ((s+32 * k:Nat):Int)] W fun e w'=>e=.returned (.tuple #[chV a (s+32 * k) (cs k).cl 0 (cs k).g,.int .i64 0])/\Blw W w'):=hid (fun W hW=>z3q (h.dev.below hW) (h.tab.below hW) (h.pay.below hW) _ _ _ Gb hC.cls hC.g0 hC.g1 hC.hdr);have Gn:Hid (∀ j W,Blw w W->Calls Tryz.prog 380 #[chV a (s+32 * k) (cs k).cl 0 (cs k).g,.int .i64 ((j:Nat):Int)] W fun e w'=>∃ z:Int,e=.returned (.int .i64 z)/\w4i (fun i=>((cs k).bs i).st) (perC (cs k).cl) j z/\Blw W w'):=hid (fun j W hW=>by
  obtain ⟨z,h1,h2⟩:=x3u hC j;refine (w1e (h.dev.below hW) (h.pay.below hW) _ _ _ _ j Gb hC.cls hC.v64 hC.bits).mono ?_;rintro e w' ⟨rfl,hb⟩;exact ⟨z,by rw [h1],h2,hb⟩)
 have Gq:Hid (∀ i,i < perC (cs k).cl->((cs k).bs i).st=176->∀ W,Blw w W->Calls Tryz.prog 210 #[chV a (s+32 * k) (cs k).cl 0 (cs k).g,.int .i64 i,.int .u8 kind] W fun e w'=>e=.returned (.tuple #[.int .u64 (fptr s cs kind k i:Int),.int .i64 0])/\Blw W w'):=hid (fun i hi hs W hW=>by
  have Gy:z5i ((cs k).bs i) kind=kind:=by unfold z5i;rw [if_neg oM]
  have hg:=hC.good i hi;have GM:0 < ((cs k).bs i).gen:=by unfold BK.good at hg;rw [if_pos hs] at hg;simp at hg;omega
  have hp:=y1e (h.dev.below hW) (h.tab.below hW) (h.pay.below hW) (s+32 * k) (cs k).cl (cs k).g (cs k).V i ((cs k).bs i) (hC.inn i hi) hg (.inl hs) (hC.bit i hi) Gb hC.cls hi hC.v64 hC.bits (hC.word i hi) kind (by rw [Gy];exact hk0) (by rw [Gy];exact hk8) oM GM;rw [Gy] at hp;exact hp)
 have GK:Hid (∀ i,i < perC (cs k).cl->∀ W,Calls Tryz.prog 135 #[.int .u64 (fptr s cs kind k i:Int)] W fun e w'=>e=.returned (.int .u64 (offO s cs k i:Int))/\W=w'):=hid (fun i hi W=>by
  have ho:=off_lt hi;have h1:pOff (fptr s cs kind k i)=offO s cs k i:=z8i (by unfold blkO;omega) (by unfold blkO;omega);have h2:=z4y (fptr s cs kind k i) W;rw [h1] at h2;exact h2)
 have GL:Hid (∀ i,i < perC (cs k).cl->offO s cs k i < 18446744073709551616):=hid (fun i hi=>by have:=off_lt hi;unfold offO blkO;omega);have G6:Hid (∀ W,Blw w W->Calls Tryz.prog 112 #[.pointer (some ⟨a.th 0,0,none⟩)] W fun e w'=>e=.returned (.int .i64 0)/\W=w'):=hid (fun W hW=>z9l (h.dev.below hW));have hm:=z1z (some ⟨a.th 0,0,none⟩);have G3:Hid (Blw w w):=Below.refl _ _;clear h hC hL Gb hd;have GP:Hid (∀ v,w0d s cs f kind k v=w0d s cs f kind k v):=hid (fun v=>rfl);have G0:w.cell? ⟨x.h,0,none⟩=some (memV a):=HD.out.hs.heap.cell 0;generalize Gb:s+32 * k=ln at *;generalize hcl:(cs k).cl=cl at *;generalize hcg:(cs k).g=cg at *;have HE:=hid (show s+32 * k=ln/\(cs k).cl=cl/\(cs k).g=cg from ⟨Gb,hcl,hcg⟩);clear Gb hcl hcg;unfold chV at *;unfold memV at *;go_enter Tryz.func348,Tryz.ntmps348
 go_wp2_with fail
 refine (GC.out _ G3.out).mono ?_;rintro e w1 ⟨rfl,Gi⟩;have Gh:=hid (Gi.alloc Gi.size (.cells #[.iface 58 (.pointer (some ⟨a.th 0,0,none⟩)),.int .i64 ln,.int .i64 cl,.int .i64 0,.int .u16 cg] 306));have Gp:=hid (Blk.new w1 306 #[.iface 58 (.pointer (some ⟨a.th 0,0,none⟩)),.int .i64 ln,.int .i64 cl,.int .i64 0,.int .u16 cg]);have GO:=hid Gi.size;clear Gi GC G3;go_wp2_with fail
 refine (Gn.out 0 _ Gh.out).mono ?_;rintro e w2 ⟨z0,rfl,GG,Gs⟩;have G4:=hid (Gh.out.trans (Gs.mono Gh.out.size));have G9:=hid (Gp.out.below Gs Gp.out.lt);have GE:=hid GG;have G8:Hid (Blw w2 w2):=Below.refl _ _;clear Gs GG Gh Gp G0;go_wp2;go_loopw [10] (fun v wr=>∃ (j:Nat) (z:Int),v=.int .i64 z/\Hid (w4i (fun i=>((cs k).bs i).st) (perC cl) j z)/\Hid (∀ i,i < j->i < perC cl->((cs k).bs i).st=176->f (offO s cs k i)≠none)/\Hid (Blw w2 wr)) (fun v _=>witM (perC cl) v)
 case atStart=>exact ⟨0,z0,rfl,GE,hid (fun i hi=>oM),G8⟩
 case round =>
  clear GE G8;obtain ⟨j,z,rfl,HZ,HA,H⟩:=hrel;have Gd:=hid (G4.out.trans (H.out.mono G4.out.size));have Ga:=hid (G9.out.below H.out G9.out.lt);have Gt:wr.cell? ⟨w1.heap.size,0,none⟩=some (.iface 58 (.pointer (some ⟨a.th 0,0,none⟩))):=Ga.out.cell 0;have Gu:wr.cell? ⟨w1.heap.size,1,none⟩=some (.int .i64 ln):=Ga.out.cell 1;have Gv:wr.cell? ⟨w1.heap.size,2,none⟩=some (.int .i64 cl):=Ga.out.cell 2;have Gw:wr.cell? ⟨w1.heap.size,3,none⟩=some (.int .i64 0):=Ga.out.cell 3;have Gx:wr.cell? ⟨w1.heap.size,4,none⟩=some (.int .u16 cg):=Ga.out.cell 4;have G0:wr.cell? ⟨x.h,0,none⟩=some (.iface 58 (.pointer (some ⟨a.th 0,0,none⟩))):=((HD.out.hs.heap.below Gd.out HD.out.hs.heap.lt).cell 0)
  rcases HZ.out with ⟨rfl,hno⟩ | ⟨i,rfl,hji,hi,hst,hmin⟩
  ·have GJ:Hid (∀ i,i < perC cl->((cs k).bs i).st=176->f (offO s cs k i)≠none):=hid (fun i hi hs=>by
    by_cases hij:i < j
    ·exact HA.out i hij hi hs
    ·exact absurd hs (hno i oM hi))
   have Gl:=hid (G6.out wr Gd.out);clear hno HA HZ Gn Gq Gt Gu Gv Gw Gx;go_wp2_with (go_at_call 112;refine Gl.out.mono ?_;rintro e w3 ⟨rfl,rfl⟩)
   go_ret2;refine ⟨_,rfl,.inl ⟨rfl,?_⟩,Gd.out⟩;obtain ⟨_,h2,_⟩:=HE.out;rw [h2];exact GJ.out
  ·have GD:=hid (Gq.out i hi hst wr Gd.out)
   have GA:=hid (GK.out i hi);have HI:=hid (show i < perC cl/\((cs k).bs i).st=176/\offO s cs k i < 18446744073709551616 from ⟨hi,hst,GL.out i hi⟩);have G1:decide ((0:Int)<=(i:Int))=true:=dT;have GR:(0:Int)<=(i:Int):=oM;have GS:(i:Int)<=62:=oM;have HM:=hid (show j<=i/\∀ i',j<=i'->i' < i->((cs k).bs i').st≠176 from ⟨hji,hmin⟩);clear hi hst hji hmin HZ;generalize hfp:fptr s cs kind k i=fp at *;have GH:=hid hfp;clear hfp;go_wp2_with fail
   refine GD.out.mono ?_;rintro e w3 ⟨rfl,Gj⟩;have Gc:=hid (Gd.out.trans (Gj.mono Gd.out.size));have Gf:=hid (H.out.trans (Gj.mono H.out.size));have Gg:=hid (Ga.out.below Gj Ga.out.lt);have Gm:=hid (G6.out w3 Gc.out);have G0:w3.cell? ⟨x.h,0,none⟩=some (.iface 58 (.pointer (some ⟨a.th 0,0,none⟩))):=((HD.out.hs.heap.below Gc.out HD.out.hs.heap.lt).cell 0)
   clear Gj Gt Gu Gv Gw Gx GD Gq;have GQ:w3.cell? ⟨x.h,4,none⟩=some (.map (some x.mr)):=((HD.out.hs.heap.below Gc.out HD.out.hs.heap.lt).cell 4)
   have Ge:=(HD.out.hs.res.chg ((Chg.of_below (S:=Fp.no) Gc.out).drew) (fun h=>h)).look HI.out.2.2;generalize hof:offO s cs k i=o at *;have GB:=hid hof;clear hof;go_wp2_with (go_at_call 112;refine Gm.out.mono ?_;rintro e w4 ⟨rfl,rfl⟩)
   cases hf:f o with
   | none =>
    rw [hf] at Ge;have Gz:(Instr.lookup 190 (.map (some x.mr)) (.int .u64 o) true).run Tryz.prog w3.drew=.ok (.tuple #[.int .u64 0,.bool false]) w3.drew:=Ge;have HF:=hid hf;clear Ge hf;go_region_with (go_at_call 135;refine (GA.out _).mono ?_;rintro e w4 ⟨rfl,rfl⟩)
    all_goals
     go_wp2;go_ret2;refine ⟨_,rfl,.inr ⟨i,?_,HI.out.2.1,by rw [GB.out];exact HF.out,by rw [GH.out];rfl⟩,Gc.out.drew⟩;obtain ⟨_,h2,_⟩:=HE.out;rw [h2];exact HI.out.1
   | some q =>
    rw [hf] at Ge;have Gz:(Instr.lookup 190 (.map (some x.mr)) (.int .u64 o) true).run Tryz.prog w3.drew=.ok (.tuple #[.int .u64 q,.bool true]) w3.drew:=Ge;have G2:Hid (∀ i',i' < i+1->i' < perC cl->((cs k).bs i').st=176->f (offO s cs k i')≠none):=hid (fun i' h1 h2 h3=>by
     by_cases e1:i' < j
     ·exact HA.out i' e1 h2 h3
     ·by_cases e2:i'=i
      ·subst e2
       rw [GB.out,hf];intro h;cases h
      ·exact absurd h3 (HM.out.2 i' oM oM))
    have Gt:w3.cell? ⟨w1.heap.size,0,none⟩=some (.iface 58 (.pointer (some ⟨a.th 0,0,none⟩))):=Gg.out.cell 0;have Gu:w3.cell? ⟨w1.heap.size,1,none⟩=some (.int .i64 ln):=Gg.out.cell 1;have Gv:w3.cell? ⟨w1.heap.size,2,none⟩=some (.int .i64 cl):=Gg.out.cell 2;have Gw:w3.cell? ⟨w1.heap.size,3,none⟩=some (.int .i64 0):=Gg.out.cell 3;have Gx:w3.cell? ⟨w1.heap.size,4,none⟩=some (.int .u16 cg):=Gg.out.cell 4;have Gk:=hid Gc.out.drew;have G7:=hid (Gn.out (i+1) w3.drew Gk.out);have ei:((i+1:Nat):Int)=(i:Int)+1:=oM;rw [ei] at G7;clear Ge hf HA HM ei;go_region_with (go_at_call 135;refine (GA.out _).mono ?_;rintro e w4 ⟨rfl,rfl⟩)
    all_goals
     go_wp2_with (go_at_call 380;refine G7.out.mono ?_;rintro e w5 ⟨z5,rfl,G1,GF⟩;have Gr:=hid G1;have G5:=hid (Gf.out.drew.trans (GF.mono Gf.out.size));clear G1 GF)
     have GI:Hid (witM (perC cl) (.int .i64 z5) < witM (perC cl) (.int .i64 i)):=hid (by
      have hi:=HI.out.1;rcases Gr.out with ⟨rfl,_⟩ | ⟨i2,rfl,h1,h2,_⟩
      ·show 0 < perC cl - i;omega
      ·show perC cl - i2 < perC cl - i;omega)
     go_roundw
     case rel =>
      first
       | exact ⟨i+1,z5,rfl,Gr,G2,G5⟩
       | (
         repeat apply Exists.intro
         refine ⟨?_,rfl⟩;exact ⟨i+1,z5,rfl,Gr,G2,G5⟩)
     case measure=>exact GI.out
end
end
section
open Go.RowKit
theorem w9j (c g:Nat) (hc:c < 5) (hg:g < 65536):bits .or .u32 ((3305111552+g:Nat):Int) (((c+1) * 65536+1048576:Nat):Int)=(hdX c g:Int):=by
 rw [u32_or_nat _ _ oM oM];congr 1
 have e1:3305111552+g=3305111552 ||| g:=Nat.two_pow_add_eq_or_of_lt (i:=16) (b:=g) oM 50432
 have e2:3305111552 ||| ((c+1) * 65536+1048576)=2 ^ 16 * (50432+(c+1)+16):=by
  have Ga:c=0\/c=1\/c=2\/c=3\/c=4:=oM;rcases Ga with rfl | rfl | rfl | rfl | rfl <;> decide
 rw [e1,Nat.or_assoc,Nat.or_comm g,<- Nat.or_assoc,e2,<- Nat.two_pow_add_eq_or_of_lt oM];unfold hdX;omega
theorem w7y (c:Nat) (hc:c < 5):bits .or .u32 (((c:Int)+1) * 65536) 1048576=(((c+1) * 65536+1048576:Nat):Int):=by
 have Ga:c=0\/c=1\/c=2\/c=3\/c=4:=oM;rcases Ga with rfl | rfl | rfl | rfl | rfl <;> decide
section
theorem x0p (c g:Nat) (hc:c < 5) (hg:g < 65536) (w:World) (ht:Tab w) :
  Calls Tryz.prog 340 #[.agg #[.int .i64 c,.int .i64 0,.int .u16 g]] w fun e w'=>e=.returned (.int .u64 (hdrW c g:Int))/\Blw w w':=by
 have Ga:Hid (∀ x,Blw w (w.alloc x)):=fun x=>(Below.refl _ _).alloc (nL _) x
 have HS:=hid (fun x=>z6l (hdX c g) (by unfold hdX;omega) (w.alloc x) (ht.below (Ga.out x)));have e1:=w4d g hg;have e2:=w9j c g hc hg;have e3:=w7y c hc;have u1:IntKind.u32.wrap (g:Int)=(g:Int):=by rw [IntKind.wrap_u32'];omega
 have u2:IntKind.u32.wrap ((c:Int)+1)=(c:Int)+1:=by rw [IntKind.wrap_u32'];omega
 have u3:IntKind.u32.wrap (((c:Int)+1) * 65536)=((c:Int)+1) * 65536:=by rw [IntKind.wrap_u32'];omega
 have d1:decide ((0:Int)<=(c:Int))=true:=dT;unfold hdrW;generalize hdX c g=z at *;generalize ((c+1) * 65536+1048576)=y at *;generalize 3305111552+g=q at *;clear ht;go_enter Tryz.func340,Tryz.ntmps340
 go_wp2_with (go_at_call 374;refine (HS.out _).mono ?_;rintro e w1 ⟨rfl,Gb⟩;have Gc:=hid ((Ga.out _).trans (Gb.mono (by simp)));clear Gb)
 go_ret;exact ⟨rfl,Gc.out⟩
def x9u (ln cl g:Nat) (p:List Ins):Prop:=∃ p1 p2,p=p1++p2/\z0y (fmtW ln cl g) p1/\z0y [(64 * ln,hdrW cl g)] p2
theorem y3h {ws:List (Nat × Nat)} {p:List Ins} (h:z0y ws p):p.length<=2 * ws.length+1:=by
 obtain ⟨fs,rfl,hl,_⟩:=h;simp;omega
theorem x3c (ln cl g:Nat) (hl:ln<=4064) (hc:cl < 5) (h0:0 < g) (hg:g < 65536) (w:World) (ht:Tab w) (hp:Pay w) :
  Calls Tryz.prog 379 #[.int .i64 ln,.agg #[.int .i64 cl,.int .i64 0,.int .u16 g]] w (y0d w (x9u ln cl g)):=by
 have HT:=hid ht;have Dt:=hid hp;obtain ⟨i0,GS,GW,GX,GY⟩:=info_parts z2i;have Gf:Hid (Blw w (w.alloc (.cells #[.int .i64 cl,.int .i64 0,.int .u16 g] 304))):=(Below.refl _ _).alloc (nL _) _;have Ga:=hid (Blk.new w 304 #[.int .i64 cl,.int .i64 0,.int .u16 g]);generalize hW:w.alloc (.cells #[.int .i64 cl,.int .i64 0,.int .u16 g] 304)=W at *;have Dg:=hid hW.symm;clear hW;have GK:=hid (ht.below Gf.out);have Gx:=hid (hp.below Gf.out);have HF:=hid (z7n cl g hc W Gx.out);have G6:Hid (∀ V,Blw W V->Calls Tryz.prog 360 #[.agg #[.int .u16 g,.int .u8 0,.int .u8 176]] V fun e w'=>e=.returned (.int .u64 (BK.w ⟨g,0,176⟩:Int))/\Blw V w'):=hid (fun V hV=>y2j ⟨g,0,176⟩ ⟨hg,by show (0:Nat) < 256;omega,by show (176:Nat) < 256;omega⟩ V (GK.out.below hV));have GH:Hid (∀ V,Blw W V->Calls Tryz.prog 207 #[.int .i64 cl] V fun e w'=>e=.returned (.int .i64 (perC cl:Int))/\V=w'):=hid (fun V hV=>z1v cl hc V (Gx.out.below hV));have GF:Hid (∀ k,k < perC cl->∀ V,Blw W V->Calls Tryz.prog 354 #[.int .i64 cl,.int .i64 k] V fun e w'=>e=.returned (.tuple #[.int .i64 (offB cl k:Int),.int .i64 0])/\V=w'):=hid (fun k hk V hV=>y3d cl k hc hk V (Gx.out.below hV));have Gy:=hid (z4n ln oM);have GM:Hid (∀ V,Blw W V->Calls Tryz.prog 340 #[.agg #[.int .i64 cl,.int .i64 0,.int .u16 g]] V fun e w'=>e=.returned (.int .u64 (hdrW cl g:Int))/\Blw V w'):=hid (fun V hV=>x0p cl g hc hg V (GK.out.below hV));have GG:Hid (∀ k,k < perC cl->offB cl k < 256):=hid (fun k hk=>by have:=off_lt hk;have:=z5k cl;omega);have Dq:=z2u cl
 have G5:=hid (fun k=>x6v ln cl g k);have GN:=hid (fun k=>x6w ln k);have d1:decide ((0:Int)<=(ln:Int))=true:=dT;have d2:decide ((ln:Int)<=4064)=true:=dT;have d3:((g:Int) == 0)=false:=by rw [beq_eq_false_iff_ne];omega
 clear ht hp hc h0 hg;generalize hz:64 * ln=z at *;have Dy:z<=260096:=oM;have HZ:=hid hz;clear hz hl;go_enter Tryz.func379,Tryz.ntmps379
 go_wp2_with fail
 rw [<- Dg.out];have c0:W.cell? ⟨w.heap.size,0,none⟩=some (.int .i64 cl):=Ga.out.cell 0;have c1:W.cell? ⟨w.heap.size,1,none⟩=some (.int .i64 0):=Ga.out.cell 1;have c2:W.cell? ⟨w.heap.size,2,none⟩=some (.int .u16 g):=Ga.out.cell 2;go_wp2_with (first
  | (go_at_call 381;refine HF.out.mono ?_;rintro e w1 ⟨rfl,Gz⟩;have Gm:=hid Gz;have k1:=Ga.out.below Gz Ga.out.lt;have Dh:w1.cell? ⟨w.heap.size,0,none⟩=some (.int .i64 cl):=k1.cell 0;have Di:w1.cell? ⟨w.heap.size,1,none⟩=some (.int .i64 0):=k1.cell 1;have Dj:w1.cell? ⟨w.heap.size,2,none⟩=some (.int .u16 g):=k1.cell 2;clear Gz k1 c0 c1 c2)
  | (go_at_call 360;refine (G6.out _ Gm.out).mono ?_;rintro e w2 ⟨rfl,GQ⟩;have Gg:=hid (Gm.out.trans (GQ.mono Gm.out.size));have k1:=Ga.out.below Gg.out Ga.out.lt;have c0:w2.cell? ⟨w.heap.size,0,none⟩=some (.int .i64 cl):=k1.cell 0;clear GQ k1 Dh Di Dj)
  | (go_at_call 207;refine (GH.out _ Gg.out).mono ?_;rintro e w3 ⟨rfl,rfl⟩)
  | go_in)
 clear c0;have Ds:Hid (W.heap.size<=w2.heap.size):=hid Gg.out.size;have Gi:Hid (w2.ownsRow W.heap.size 114 2 (.slice none 0 0) 0 (z0d (fmtB ln cl g 0))):=World.ownsRow_nil _ _ _ _;generalize BK.w ⟨g,0,176⟩=bw at *;go_loopw [6,33] (fun v i wr=>∃ (k:Nat) (A1:Option Addr) (m1 c1:Nat),k<=perC cl/\i=.int .i64 k/\v=.slice A1 m1 c1/\m1=k/\Hid (wr.ownsRow W.heap.size 114 2 (.slice A1 m1 c1) m1 (z0d (fmtB ln cl g k)))/\Hid (Blw W wr)) (fun _ i _=>perC cl - (RowKit.intOf i).toNat)
 case atStart=>exact ⟨0,_,_,_,Nat.zero_le _,rfl,rfl,rfl,Gi,Gg⟩
 case round =>
  clear Gi Gg;obtain ⟨k,A1,m1,c1,hk,rfl,rfl,Gc,HO,H⟩:=hrel;by_cases hlt:k < perC cl
  ·have Dz:(0:Int)<=(k:Int):=oM
   have D0:(k:Int) < (perC cl:Int):=oM;have GU:m1<=62:=oM;have HM:=hid Gc;have Dc:=hid (GF.out k hlt wr H.out);have Dx:=GG.out k hlt;have c0:wr.cell? ⟨w.heap.size,0,none⟩=some (.int .i64 cl):=(Ga.out.below H.out Ga.out.lt).cell 0;have Gr:Hid (z0d (fmtB ln cl g k)++[.int .u64 ((z+8 * offB cl k:Nat):Int),.int .u64 bw]=z0d (fmtB ln cl g (k+1))):=hid (by rw [G5.out];simp [z0d]);generalize offB cl k=ob at *;have u1:IntKind.u64.wrap (ob:Int)=(ob:Int):=by rw [IntKind.wrap_u64];omega
   have u2:IntKind.u64.wrap ((ob:Int) * 8)=(ob:Int) * 8:=by rw [IntKind.wrap_u64];omega
   have u3:IntKind.u64.wrap ((z:Int)+(ob:Int) * 8)=((z+8 * ob:Nat):Int):=by rw [IntKind.wrap_u64];omega
   have Dr:z+8 * ob < 9000000000:=oM;generalize z+8 * ob=y at *;have Gt:=hid H.out.size;have Gw:=hid (HO.out.alloc (.cells #[.int .u64 y,.int .u64 bw] 114));have Gp:=hid (H.out.alloc H.out.size (.cells #[.int .u64 y,.int .u64 bw] 114));clear H HO Gc;go_wp2_with (first
    | (go_at_call 354;refine Dc.out.mono ?_;rintro e w3 ⟨rfl,rfl⟩)
    | (go_at_call 339;refine (Gy.out _).mono ?_;rintro e w3 ⟨rfl,rfl⟩)
    | (at_builtin;refine z0p _ (.tmp 43) (.tmp 52) 108 rfl rfl W.heap.size 114 i0 _ 2 16 Tryz.underlying108 GS GW GX GY rfl ?q1 (.slice A1 m1 c1) m1 (z0d (fmtB ln cl g k)) rfl Gw.out (wr.heap.size+1) (some ⟨wr.heap.size,0,none⟩) 1 1 [.int .u64 y,.int .u64 bw] rfl ?q5 ?q6 ?q2 ?q3 ?q4 ?_;(case q1=>omega);(case q5=>exact z0m _ _ rfl _ 1 2 114 _ rfl rfl);(case q6=>(intro u hu;simp at hu;rcases hu with rfl | rfl <;> rfl));(case q2=>(unfold maxLen;omega));(case q3=>omega);(case q4=>(have:=Gt.out;simp;omega));intro A3 n3 c3 w8 hn3 ho3 hg3 hb3;have Gu:=hid hn3;have Gv:=hid ho3;have Gh:=hid (Gp.out.trans hb3);clear hn3 ho3 hg3 hb3)
    | go_in)
   have b1:n3=k+1:=by have:=Gu.out;have:=HM.out;omega
   have Gb:Hid (w8.ownsRow W.heap.size 114 2 (.slice A3 n3 c3) n3 (z0d (fmtB ln cl g (k+1)))):=hid (by have h:=Gv.out;rw [Gr.out] at h;exact h);go_roundw
   case rel =>
    first
     | exact ⟨k+1,_,_,_,oM,by go_num,rfl,b1,Gb,Gh⟩
     | (
       repeat apply Exists.intro
       refine ⟨?_,rfl⟩;exact ⟨k+1,_,_,_,oM,by go_num,rfl,b1,Gb,Gh⟩)
   case measure=>simp [RowKit.intOf];omega
  ·have GT:perC cl=k:=oM
   clear GF GG GH G6;have Gi:Hid (wr.ownsRow W.heap.size 114 2 (.slice A1 m1 c1) m1 (z0d (fmtB ln cl g (perC cl)++fmtZ ln 0))):=hid (by rw [GT];simp only [fmtZ,List.range_zero,List.map_nil,List.append_nil];exact HO.out);have GU:m1<=62:=oM;have G8:=hid (show m1=perC cl by omega);have Dk:decide ((k:Int) < (perC cl:Int))=false:=dF;have Dl:decide (k < perC cl)=false:=decide_eq_false hlt;clear HO GT Gc hk hlt;go_wp2;clear Dk Dl;go_loopw [6,11] (fun v i wr=>∃ (j:Nat) (A2:Option Addr) (m2 c2:Nat),j<=7/\i=.int .u64 ((j+1:Nat):Int)/\v=.slice A2 m2 c2/\m2=m1+j/\Hid (wr.ownsRow W.heap.size 114 2 (.slice A2 m2 c2) m2 (z0d (fmtB ln cl g (perC cl)++fmtZ ln j)))/\Hid (Blw W wr)) (fun _ i _=>8 - (RowKit.intOf i).toNat)
   case atStart=>exact ⟨0,_,_,_,Nat.zero_le _,rfl,rfl,rfl,Gi,H⟩
   case round =>
    clear Gi H;obtain ⟨j,A2,m2,c2,hj,rfl,rfl,Gd,HO,H⟩:=hrel;by_cases hlt:j < 7
    ·have d8:decide (((j+1:Nat):Int) < 8)=true:=dT
     have Du:decide (j+1 < 8)=true:=dT;have Dw:m2<=80:=oM;have HM:=hid Gd;have Gr:Hid (z0d (fmtB ln cl g (perC cl)++fmtZ ln j)++[.int .u64 ((z+8 * (j+1):Nat):Int),.int .u64 0]=z0d (fmtB ln cl g (perC cl)++fmtZ ln (j+1))):=hid (by rw [GN.out];simp [z0d]);have u2:IntKind.u64.wrap (((j+1:Nat):Int) * 8)=((j+1:Nat):Int) * 8:=by rw [IntKind.wrap_u64];omega
     have u3:IntKind.u64.wrap ((z:Int)+((j+1:Nat):Int) * 8)=((z+8 * (j+1):Nat):Int):=by rw [IntKind.wrap_u64];omega
     have u4:IntKind.u64.wrap (((j+1:Nat):Int)+1)=((j+1+1:Nat):Int):=by rw [IntKind.wrap_u64];omega
     have Dr:z+8 * (j+1) < 9000000000:=oM;generalize z+8 * (j+1)=y at *;have Dv:j+1+1<=8:=oM;have HJ:Hid (∃ j2,j2=j+1):=hid ⟨_,rfl⟩;generalize hj1:j+1=j1 at *;generalize hj3:j1+1=j3 at *;have Gs:=hid hj1;have G7:=hid hj3;clear hj1 hj3 HJ;have Gt:=hid H.out.size;have Gw:=hid (HO.out.alloc (.cells #[.int .u64 y,.int .u64 0] 114));have Gp:=hid (H.out.alloc H.out.size (.cells #[.int .u64 y,.int .u64 0] 114));clear H HO Gd;go_wp2_with (first
      | (go_at_call 339;refine (Gy.out _).mono ?_;rintro e w3 ⟨rfl,rfl⟩)
      | (at_builtin;refine z0p _ (.tmp 59) (.tmp 66) 108 rfl rfl W.heap.size 114 i0 _ 2 16 Tryz.underlying108 GS GW GX GY rfl ?q1 (.slice A2 m2 c2) m2 (z0d (fmtB ln cl g (perC cl)++fmtZ ln j)) rfl Gw.out (wr.heap.size+1) (some ⟨wr.heap.size,0,none⟩) 1 1 [.int .u64 y,.int .u64 0] rfl ?q5 ?q6 ?q2 ?q3 ?q4 ?_;(case q1=>omega);(case q5=>exact z0m _ _ rfl _ 1 2 114 _ rfl rfl);(case q6=>(intro u hu;simp at hu;rcases hu with rfl | rfl <;> rfl));(case q2=>(unfold maxLen;omega));(case q3=>omega);(case q4=>(have:=Gt.out;simp;omega));intro A3 n3 c3 w8 hn3 ho3 hg3 hb3;have Gu:=hid hn3;have Gv:=hid ho3;have Gh:=hid (Gp.out.trans hb3);clear hn3 ho3 hg3 hb3)
      | go_in)
     have b1:n3=m1+(j+1):=by have:=Gu.out;have:=HM.out;omega
     have Gb:Hid (w8.ownsRow W.heap.size 114 2 (.slice A3 n3 c3) n3 (z0d (fmtB ln cl g (perC cl)++fmtZ ln (j+1)))):=hid (by have h:=Gv.out;rw [Gr.out,<- Gs.out] at h;exact h);have HV:Hid ((j3:Int)=((j+1+1:Nat):Int)):=hid (by rw [<- G7.out,<- Gs.out]);go_roundw
     case rel =>
      first
       | exact ⟨j+1,_,_,_,oM,by rw [<- HV.out],rfl,b1,Gb,Gh⟩
       | (
         repeat apply Exists.intro
         refine ⟨?_,rfl⟩;exact ⟨j+1,_,_,_,oM,by rw [<- HV.out],rfl,b1,Gb,Gh⟩)
     case measure=>(have h1:=Gs.out;have h3:=G7.out;simp [RowKit.intOf];omega)
    ·have Dm:j=7:=oM
     subst Dm;have GE:Hid (wr.ownsRow W.heap.size 114 2 (.slice A2 m2 c2) m2 (z0d (fmtW ln cl g))):=HO;have G9:Hid (m2<=69/\0 < m2):=hid (by have:=G8.out;omega);have Df:Hid (∀ e∈fmtW ln cl g,e.1 < 18446744073709551616):=hid (fun e he=>by
      unfold fmtW at he;rcases List.mem_append.1 he with he | he
      ·obtain ⟨i,hi,rfl⟩:=x1b he
       have:=off_lt hi;have:=HZ.out;show 64 * ln+8 * offB cl i < _;omega
      ·obtain ⟨i,hi,rfl⟩:=x1d he
       have:=HZ.out;show 64 * ln+8 * (i+1) < _;omega)
     clear HO Gd hlt hj G8 GU G5 GN;go_wp2_with fail
     refine z0k (fun w'=>Blw W w') 4 [(true,0),(true,2),(false,1),(false,3)] (by kernel_rfl) (by kernel_rfl) H.out.drew ?_;refine tkS (.int .i64 ln) (fun w' hS=>?_) ?_
     ·go_simp
     refine tkS (.agg #[.int .i64 cl,.int .i64 0,.int .u16 g]) (fun w' hS=>?_) ?_
     ·have f0:w'.cell? ⟨w.heap.size,0,none⟩=some (.int .i64 cl):=(Ga.out.below hS Ga.out.lt).cell 0
      have f1:w'.cell? ⟨w.heap.size,1,none⟩=some (.int .i64 0):=(Ga.out.below hS Ga.out.lt).cell 1;have f2:w'.cell? ⟨w.heap.size,2,none⟩=some (.int .u16 g):=(Ga.out.below hS Ga.out.lt).cell 2;go_simp
     refine z0l (by rfl) ?_;go_wp2_with fail
     refine (Gy.out _).mono ?_;rintro e w4 ⟨rfl,rfl⟩;go_wp2_with fail
     refine ⟨H.out.drew,?_⟩;refine z0l (by rfl) ?_;go_wp2_with fail
     refine (GM.out _ H.out.drew).mono ?_;rintro e w5 ⟨rfl,Ge⟩;have Gq:Hid (Blw wr w5):=hid ((Below.refl _ wr).drew.trans Ge);have Gj:=hid (H.out.trans (Gq.out.mono H.out.size));have GA:=hid (z0r GE.out Gq.out);have HX:Hid (hdrW cl g=hdrW cl g):=hid rfl;generalize hhd:hdrW cl g=hd at *;have Da:=hid hhd;have GI:=hid (z1q _ 1 1 _ _ (z4i w5 z hd) oM oM (fun e he=>by simp at he;subst he;show z < _;omega));have Gk:Hid (∀ o,Blw W (w5.alloc o)):=hid (fun o=>Gj.out.alloc Gj.out.size o);have GB:Hid (∀ o,(w5.alloc o).ownsRow W.heap.size 114 2 (.slice A2 m2 c2) m2 (z0d (fmtW ln cl g))):=hid (fun o=>GA.out.alloc o);clear Ge hhd HX GE GA GM Gq;go_wp2_with fail
     refine ⟨Gj.out,?_⟩;show wpList _ _ _ _ _ _;simp only [List.drop_succ_cons,List.drop_zero];go_wp2_with (go_at_call 105;refine GI.out.mono ?_;intro e w6 h1;obtain ⟨A4,m4,c4,p4,rfl,G3,G1,G0⟩:=h1;refine stop ?_)
     unfold Stop;have Gn:=hid ((Gk.out _).trans (G0.mono (Gk.out _).size));have GC:=hid (z0r (GB.out _) G0);have Dd:=hid G3;have Gb:=hid (z6q G1 (Gk.out _).size);have GJ:=hid (z1q A2 m2 c2 (fmtW ln cl g) w6 (z0c.of_own GC.out) G9.out.2 (by have:=G9.out;omega) Df.out);have GO:=y3h G3;have Dn:m4<=400:=by have h:=G1.1;rw [z0v] at h;simp at GO;omega
     clear G3 G1 G0 GI Gk GB GC Gj H GO;go_wp2_with fail
     refine NoPanic.normal ?_;go_wp2_with (go_at_call 105;refine GJ.out.mono ?_;intro e w7 h1;obtain ⟨A5,m5,c5,p5,rfl,G4,G2,Ge⟩:=h1;refine stop ?_)
     unfold Stop;have GD:=hid (z0r Gb.out Ge);have GP:=y3h G4;have Do:m5<=400:=by have h:=G2.1;rw [z0v] at h;rw [x1c] at GP;have:=z2u cl;omega
     have GL:=hid (y0a A5 A4 m5 c5 m4 c4 p5 p4 w7 (z0c.of_own G2) (z0c.of_own GD.out) Do Dn);have De:=hid G4;have Gl:=hid (Gn.out.trans (Ge.mono Gn.out.size));clear G4 G2 Ge GJ Gb GD Gn GP;go_wp2_with fail
     refine GL.out.mono ?_;rintro e w8 ⟨A6,m6,c6,rfl,Dp,GV,GR⟩;have Db:=hid (z6q (base':=w.heap.size) GV (Nat.le_trans Gf.out.size Gl.out.size));have GZ:=hid (Gf.out.trans ((Gl.out.trans (GR.mono Gl.out.size)).mono Gf.out.size));clear GV GR Dp GL Gl;go_wp2;go_ret2;refine ⟨_,_,_,_,rfl,⟨p5,p4,rfl,De.out,?_⟩,Db.out,GZ.out⟩;rw [HZ.out,Da.out];exact Dd.out
end
end
section
open Go.RowKit
def z1u (b:BK):BK:=if b.gen=65535 then ⟨65535,0,178⟩ else ⟨b.gen+1,0,176⟩
def z2v (b:BK) (kind:Nat):BK:=⟨b.gen,kind,177⟩
theorem y0n {b:BK} (h:b.In):(z1u b).In:=by
 unfold z1u;have:=h.g;split
 ·exact ⟨by show 65535 < 65536;omega,by show 0 < 256;omega,by show 178 < 256;omega⟩
 ·exact ⟨by show b.gen+1 < 65536;omega,by show 0 < 256;omega,by show 176 < 256;omega⟩
theorem y9b (b:BK):(z1u b).good=true:=by
 unfold z1u;split
 ·simp [BK.good]
 ·simp [BK.good]
theorem y1m {b:BK} (h:b.In) {kind:Nat} (hk:kind < 256):(z2v b kind).In:=⟨h.g,hk,by show 177 < 256;omega⟩
theorem x0j {b:BK} (hg:b.good=true) (hs:b.st=176) {kind:Nat} (h0:0 < kind) (h8:kind < 128):(z2v b kind).good=true:=by
 unfold BK.good at hg;rw [if_pos hs] at hg;simp at hg;simp [BK.good,z2v];exact ⟨⟨hg.1,oM⟩,dT⟩
def updB (bs:Nat->BK) (i:Nat) (b:BK):Nat->BK:=fun j=>if j=i then b else bs j
def tkB (bs:Nat->BK) (l:List (Nat × Nat)):Nat->BK:=l.foldl (fun c e=>updB c e.1 (z2v (bs e.1) e.2)) bs
def drB (bs c:Nat->BK) (l:List Nat):Nat->BK:=l.foldl (fun c i=>updB c i (z1u (bs i))) c
theorem w3b (bs:Nat->BK) (l:List (Nat × Nat)) (e:Nat × Nat):tkB bs (l++[e])=updB (tkB bs l) e.1 (z2v (bs e.1) e.2):=by simp [tkB]
theorem w0v (bs c:Nat->BK) (l:List Nat) (i:Nat):drB bs c (l++[i])=updB (drB bs c l) i (z1u (bs i)):=by simp [drB]
theorem z3u {α:Type} (g:α->Nat) (v:α->BK) (i:Nat):∀ (l:List α) (c:Nat->BK),i ∉ l.map g->(l.foldl (fun c e=>updB c (g e) (v e)) c) i=c i
 | [],_,_=>rfl
 | e :: l,c,h=>by
  rw [List.foldl_cons,z3u g v i l _ (fun hh=>h (by simp at hh ⊢;exact .inr hh))];unfold updB;rw [if_neg (fun hh=>h (by simp [hh]))]
theorem y4g {α:Type} (g:α->Nat) (v:α->BK):∀ (l:List α) (c:Nat->BK),(l.map g).Nodup->∀ e∈l,(l.foldl (fun c e=>updB c (g e) (v e)) c) (g e)=v e
 | [],_,_,_,h=>by simp at h
 | x :: l,c,hn,e,he=>by
  rw [List.map_cons,List.nodup_cons] at hn;rw [List.foldl_cons];rcases List.mem_cons.1 he with rfl | he
  ·rw [z3u g v _ l _ hn.1]
   simp [updB]
  ·exact y4g g v l _ hn.2 e he
structure Bits (V cl:Nat) (bs:Nat->BK):Prop where
 lt:V < 18446744073709551616
 bit:∀ i,i < perC cl->z1r V i=decide ((bs i).st≠176)
 top:V < 2 ^ perC cl
theorem z2y (V i:Nat):z1r V i=V.testBit i:=by
 unfold z1r;rw [Nat.testBit_eq_decide_div_mod_eq];rcases Nat.mod_two_eq_zero_or_one (V / 2 ^ i) with h | h <;> simp [h]
theorem z4c {i:Nat} (h:i < 64):2 ^ i < 18446744073709551616:=by
 have h1:(2:Nat) ^ i<=2 ^ 63:=Nat.pow_le_pow_right oM oM;have h2:(2:Nat) ^ 63=9223372036854775808:=by decide
 omega
theorem x6b {V i:Nat} (hV:V < 18446744073709551616) (hi:i < 64):(V ||| 2 ^ i) < 18446744073709551616/\∀ j,z1r (V ||| 2 ^ i) j=if j=i then true else z1r V j:=by
 refine ⟨Nat.or_lt_two_pow (n:=64) hV (z4c hi),fun j=>?_⟩;rw [z2y,z2y,Nat.testBit_or,Nat.testBit_two_pow];by_cases e:j=i
 ·subst e;simp
 ·rw [if_neg e]
  simp;omega
theorem x0v {V i:Nat} (hV:V < 18446744073709551616) (hi:i < 64) (hb:z1r V i=true):(V ^^^ 2 ^ i) < 18446744073709551616/\∀ j,z1r (V ^^^ 2 ^ i) j=if j=i then false else z1r V j:=by
 refine ⟨Nat.xor_lt_two_pow (n:=64) hV (z4c hi),fun j=>?_⟩;rw [z2y,z2y,Nat.testBit_xor,Nat.testBit_two_pow];rw [z2y] at hb;by_cases e:j=i
 ·subst e;simp [hb]
 ·rw [if_neg e]
  have:decide (i=j)=false:=decide_eq_false (fun h=>e h.symm);rw [this];simp
theorem Bits.take {V cl i kind:Nat} {bs:Nat->BK} {b:BK} (h:Bits V cl bs) (hi:i < perC cl):Bits (V ||| 2 ^ i) cl (updB bs i (z2v b kind)):=by
 have hp:=z2u cl;obtain ⟨h1,h2⟩:=x6b h.lt (i:=i) oM;refine ⟨h1,fun j hj=>?_,Nat.or_lt_two_pow h.top (Nat.pow_lt_pow_right oM hi)⟩;rw [h2];unfold updB;by_cases e:j=i
 ·rw [if_pos e,if_pos e];rfl
 ·rw [if_neg e,if_neg e];exact h.bit j hj
theorem Bits.drop {V cl i:Nat} {bs:Nat->BK} {b:BK} (h:Bits V cl bs) (hi:i < perC cl) (hs:(bs i).st=177):Bits (if (z1u b).st=176 then V ^^^ 2 ^ i else V) cl (updB bs i (z1u b)):=by
 have hp:=z2u cl;have hb:z1r V i=true:=by rw [h.bit i hi,hs];rfl
 obtain ⟨h1,h2⟩:=x0v h.lt (i:=i) oM hb;by_cases hf:(z1u b).st=176
 ·rw [if_pos hf]
  refine ⟨h1,fun j hj=>?_,Nat.xor_lt_two_pow h.top (Nat.pow_lt_pow_right oM hi)⟩;rw [h2];unfold updB;by_cases e:j=i
  ·rw [if_pos e,if_pos e,hf];rfl
  ·rw [if_neg e,if_neg e];exact h.bit j hj
 ·rw [if_neg hf]
  refine ⟨h.lt,fun j hj=>?_,h.top⟩;unfold updB;by_cases e:j=i
  ·rw [if_pos e,e,hb]
   simp [hf]
  ·rw [if_neg e];exact h.bit j hj
theorem y1k {i:Nat} (hi:i < 64):IntKind.u64.wrap ((2:Int) ^ i)=((2 ^ i:Nat):Int):=by
 have h:=z4c hi;have e:((2:Int) ^ i)=((2 ^ i:Nat):Int):=by push_cast;rfl
 rw [e,IntKind.wrap_u64];generalize (2 ^ i:Nat)=q at *;omega
theorem w9s:(2:Nat) ^ 64=18446744073709551616:=by decide
theorem y2a (V i:Nat) (hV:V < 18446744073709551616) (hi:i < 64) (hb:z1r V i=true):bits .andNot .u64 (V:Int) ((2 ^ i:Nat):Int)=((V ^^^ 2 ^ i:Nat):Int):=by
 have h2:=z4c hi;have hx:=(x0v hV hi hb).1;have h4:=w9s;have h5:2 ^ i < 2 ^ 64:=oM;show IntKind.u64.wrap ((BitVec.ofInt 64 (V:Int) &&& ~~~BitVec.ofInt 64 ((2 ^ i:Nat):Int)).toNat:Int)=_;rw [BitVec.toNat_and,BitVec.toNat_not,ofInt_u64 V hV,ofInt_u64 (2 ^ i) h2];have h6:2 ^ 64 - 1 - 2 ^ i=2 ^ 64 - (2 ^ i+1):=oM;have e:V &&& (2 ^ 64 - (2 ^ i+1))=V ^^^ 2 ^ i:=by
  apply Nat.eq_of_testBit_eq;intro j;rw [Nat.testBit_and,Nat.testBit_xor,Nat.testBit_two_pow_sub_succ h5,Nat.testBit_two_pow];rw [z2y] at hb;by_cases e:i=j
  ·subst e
   rw [hb];simp [hi]
  ·have hd:decide (i=j)=false:=decide_eq_false e
   rw [hd];by_cases h64:j < 64
   ·simp [h64]
   ·have h7:(2:Nat) ^ 64<=2 ^ j:=Nat.pow_le_pow_right oM oM
    have:V.testBit j=false:=Nat.testBit_lt_two_pow oM;simp [this]
 rw [h6,e,IntKind.wrap_u64];generalize (V ^^^ 2 ^ i:Nat)=q at *;omega
def tkW (ln cl:Nat) (bs:Nat->BK) (l:List (Nat × Nat)):List (Nat × Nat):=l.map fun e=>(64 * ln+8 * offB cl e.1,(z2v (bs e.1) e.2).w)
def drW (ln cl:Nat) (bs:Nat->BK) (l:List Nat):List (Nat × Nat):=l.map fun i=>(64 * ln+8 * offB cl i,(z1u (bs i)).w)
def chgW (ln cl:Nat) (bs:Nat->BK) (take:List (Nat × Nat)) (drop:List Nat) (V:Nat):List (Nat × Nat):=tkW ln cl bs take++drW ln cl bs drop++[(64 * ln+8,V)]
def actB (bs:Nat->BK) (take:List (Nat × Nat)) (drop:List Nat):Nat->BK:=drB bs (tkB bs take) drop
end
end Go.Proofs.YtfkjjoglnmeciaaGreatDoor

/- part 16 -/
import Derived.Test.YtfkjjoglnmeciaaGreatDoorMan
set_option maxRecDepth 100000
set_option maxHeartbeats 16000000
namespace Go.Proofs.YtfkjjoglnmeciaaGreatDoor
open Go.Lib (hid)
section
open Go.RowKit Go.Maps
def x9v (ws ws2:List (Nat × Nat)) (p:List Ins):Prop:=∃ p1 p2,z0y ws p1/\z0y ws2 p2/\p=p1++p2
theorem x7l {ws ws2:List (Nat × Nat)} {p:List Ins} (h:x9v ws ws2 p):p.length<=2 * ws.length+2 * ws2.length+2:=by
 obtain ⟨p1,p2,h1,h2,rfl⟩:=h;have:=z2p h1;have:=z2p h2;simp;omega
theorem x3r (a:DA) (s k g:Nat) (A:Option Addr) (n c:Nat) (ws:List (Nat × Nat)) (w:World) (h:z0c w w.heap.size 2 A n (z0d ws)) (h0:0 < n) (hn:n<=100) (hv:∀ e∈ws,e.1 < 18446744073709551616) (hB:Blk w g 353 (z1h a s k)) (hs:64 * s < 18446744073709551616) :
  Calls Tryz.prog 250 #[.pointer (some ⟨g,0,none⟩),.slice A n c] w (z2s w (x9v ws [(64 * s,0)])):=by
 have Gj:=hid (z1q A n c ws w h h0 oM hv);have Gs:=hid (show ws.length=n by have:=h.1;rw [z0z] at this;omega);have Gz:=hid hB;have Gt:Hid (∀ W,Blw w W->Calls Tryz.prog 170 #[.pointer (some ⟨g,0,none⟩),.int .u64 0] W (z2s W (z0y [(64 * s,0)]))):=hid (fun W hW=>y4q a s k g 0 W (hB.below hW hB.lt) hs);clear h hv hB;go_enter Tryz.func250,Tryz.ntmps250
 go_wp2_with fail
 refine Gj.out.mono ?_;rintro e1 w4 ⟨B1,n1,d1,p1,rfl,Gp,Gm,Gc⟩;have Gg:=hid Gp;have Gb:=hid Gm;have Gf:=hid Gc;have Gi:=hid (Gt.out w4 Gc);clear Gp Gm Gc Gj;go_wp2_with fail
 refine Gi.out.mono ?_;rintro e1 w5 ⟨B2,n2,Gv,p2,rfl,Gq,Ge,Gd⟩;have Gh:=hid Gq;have Ga:=hid (Gf.out.trans (Gd.mono Gf.out.size));have Gw:n1<=400:=by
  have h1:=Gb.out.1;have h2:=z2p Gg.out;rw [z0v] at h1;have:=Gs.out;omega
 have Gx:n2<=400:=by
  have h1:=Ge.1;have h2:=z2p Gh.out;rw [z0v] at h1;simp at h2;omega
 have Gk:=hid (y0a B1 B2 n1 d1 n2 Gv p1 p2 w5 (z0c.of_own (z0r Gb.out Gd)) (z0c.of_own Ge) Gw Gx);clear Gq Ge Gd Gi Gb;go_wp2_with fail
 refine Gk.out.mono ?_;rintro e1 w6 ⟨B3,n3,d3,rfl,Gy,Gn,Gl⟩;have Gu:=hid Gn;have Gr:=hid (Ga.out.trans (Gl.mono Ga.out.size));clear Gy Gn Gl Gk;go_wp2;go_ret;exact ⟨_,_,_,_,rfl,⟨p1,p2,Gg.out,Gh.out,rfl⟩,z6q Gu.out Ga.out.size,Gr.out⟩
end
section
open Go.RowKit
theorem z6p {a:DA} {L T:Nat} {w:World} {S:Fp} {cur:Nat->Nat} {F:Nat} (h:Dev a L T w S cur F) (s n:Nat) (hn:32<=n) (hs:s+n<=L) :
  Calls Tryz.prog 283 #[memV a,.int .i64 s,.int .i64 n] w fun e w'=>e=.returned (.bool true)/\w=w':=by
 obtain ⟨ls,Gc,Gf,cs,Ge,Ga,Gb⟩:=h;have hL:=Ga.hL;obtain ⟨f0,f2,_,_,_⟩:=Ga.facts (j:=0) oM;clear Ga Gb;have hq:=y0k (some ⟨a.th 0,0,none⟩);have Gd:=z7s (some ⟨a.th 0,0,none⟩);unfold memV;have e1:decide ((s:Int) < 0)=false:=dF;have e2:decide ((n:Int) < 32)=false:=dF;have u1:IntKind.u64.wrap ((L:Int) * 64)=(L:Int) * 64:=by rw [IntKind.wrap_u64];omega
 have u2:IntKind.u64.wrap (n:Int)=(n:Int):=by rw [IntKind.wrap_u64];omega
 have u3:IntKind.u64.wrap (s:Int)=(s:Int):=by rw [IntKind.wrap_u64];omega
 have u4:IntKind.u64.wrap ((L:Int) - (s:Int))=(L:Int) - (s:Int):=by rw [IntKind.wrap_u64];omega
 have d1:((L:Int) * 64).tdiv 64=(L:Int):=by rw [Int.mul_tdiv_cancel _ (by decide)]
 have d2:(n:Int).tdiv 32=(n:Int) / 32:=by rw [Int.tdiv_eq_ediv_of_nonneg oM]
 have e3:decide ((L:Int) < (s:Int))=false:=dF;have e4:decide ((L:Int) - (s:Int) < (n:Int))=false:=dF;have u5:IntKind.u64.wrap ((n:Int) / 32)=(n:Int) / 32:=by rw [IntKind.wrap_u64];omega
 have u6:IntKind.u64.wrap ((n:Int) / 32 * 32)=(n:Int) / 32 * 32:=by rw [IntKind.wrap_u64];omega
 have u7:IntKind.u64.wrap ((s:Int)+(n:Int) / 32 * 32)=(s:Int)+(n:Int) / 32 * 32:=by rw [IntKind.wrap_u64];omega
 have e5:decide ((s:Int)+(n:Int) / 32 * 32<=4096)=true:=dT;go_enter Tryz.func283,Tryz.ntmps283
 go_wp2;go_ret;exact ⟨rfl,rfl⟩
def arC (cur:Nat->Nat) (s:Nat):Nat->Nat->Nat
 | 0=>cur
 | k+1=>wrS (arC cur s k) [(64 * (s+32 * k),z4d 1)]
def AreI (a:DA) (L T:Nat) (w wr:World) (S:Fp) (cur:Nat->Nat) (s k:Nat):Prop:=∃ S',Dev a L (T+3 * k) wr S' (arC cur s k) 0/\Chg S w wr/\Grew S S' w
theorem x1e (o:Nat) (ho:o < 65536):z4d o < 18446744073709551616:=w2v _ oM
theorem y0g {a:DA} {L T:Nat} {w:World} {S:Fp} {cur:Nat->Nat} (h:Dev a L T w S cur 0) (ht:Tab w) (hg:¬ S 1) (s n K:Nat) (hn:32<=n) (hs:s+n<=L) (hK:n / 32=K) (hT:T+3 * K<=1000000000) :
  Calls Tryz.prog 171 #[memV a,.int .i64 s,.int .i64 n] w (z2c a L (T+3 * K) w S (arC cur s K) 0 (.int .i64 0)):=by
 have HV:=hid (z6p h s n hn hs);have Gd:Hid (AreI a L T w w S cur s 0):=⟨S,h,Chg.refl _ _,Grew.refl _ _⟩
 have HG:=hid hg;have HT:=hid ht;obtain ⟨ls,Gi,Gp,cs,Gn,Ga,Gc⟩:=h;have hL:=Ga.hL;obtain ⟨f0,_,_,_,g2⟩:=Ga.facts (j:=0) oM;have Gq:=z1z (some ⟨a.th 0,0,none⟩);have d2:(n:Int).tdiv 32=(K:Int):=by rw [Int.tdiv_eq_ediv_of_nonneg oM];omega
 have d3:(n:Int) / 32=(K:Int):=oM;have Gj:K * 32<=n:=oM;clear Ga Gc ht hg hK;unfold memV at *;go_enter Tryz.func171,Tryz.ntmps171
 go_wp2_with (first
  | (go_at_call 283;refine HV.out.mono ?_;rintro e w1 ⟨rfl,rfl⟩)
  | go_in)
 clear f0 g2 HV;go_loopw [24] (fun i wr=>∃ (k:Nat),k<=K/\i=.int .i64 k/\Hid (AreI a L T w wr S cur s k)) (fun i _=>K - (RowKit.intOf i).toNat)
 case atStart=>exact ⟨0,Nat.zero_le _,rfl,Gd⟩
 case round =>
  clear Gd;obtain ⟨k,hk,rfl,H⟩:=hrel;by_cases hlt:k < K
  ·obtain ⟨S1,hd,hc,Gb⟩:=H.out
   have HC:=hid (x6k (s+32 * k) 1 oM oM oM wr (HT.out.chg hc HG.out));have HR:Hid (∀ (A:Option Addr) (m c:Nat) (p:List Ins) (w1:World),z0y [(64 * (s+32 * k),z4d 1)] p->w1.ownsRow wr.heap.size 284 3 (.slice A m c) m (z0j p)->Blw wr w1 ->
     Calls Tryz.prog 78 #[.slice A m c,memV a] w1 (fun e w2=>e=.returned (.int .i64 0)/\AreI a L T w w2 S cur s (k+1))):=fun A m c p w1 hp ho hb=>by
    refine (z8l (hd.below hb) ho hd.lt hp (fun e he=>by simp only [List.mem_singleton] at he;subst he;exact ⟨oM,oM,x1e 1 oM⟩) (by simp) (by simp;omega)).mono ?_;intro e w2 h2;obtain ⟨he,S2,Gl,Gk,Gm⟩:=z2c.then_ hc Gb (z2c.back hb h2);exact ⟨he,S2,Gl.more (by simp;omega) oM,Gk,Gm⟩
   have e7:((s+32 * k:Nat):Int)=(s:Int)+(k:Int) * 32:=oM;rw [e7] at HC;generalize 64 * (s+32 * k)=z at *;clear hd hc Gb e7 H;unfold memV at *;go_wp2_with (first
    | (go_at_call 284;refine HC.out.mono ?_;rintro e w1 ⟨A1,m1,c1,p1,rfl,Gg,Gf,Ge⟩;have Gh:=hid (HR.out A1 m1 c1 p1 w1 Gg Gf Ge);clear Gg Gf Ge)
    | (go_at_call 78;refine Gh.out.mono ?_;rintro e w2 ⟨rfl,h2⟩;have HZ:=hid h2;clear h2)
    | go_in)
   go_roundw
   case rel =>
    repeat apply Exists.intro
    refine ⟨?_,rfl⟩;exact ⟨k+1,oM,by go_num,HZ⟩
   case measure=>simp [RowKit.intOf];omega
  ·obtain rfl:k=K:=oM
   obtain ⟨S1,hd,hc,Gb⟩:=H.out;have HZ:=hid (show ∃ S',Dev a L (T+3 * k) wr S' (arC cur s k) 0/\Chg S w wr/\Grew S S' w from H.out);obtain ⟨ls,Gi,Gp,cs,Gn,Ga,Gc⟩:=hd;obtain ⟨f0,_,_,_,g2⟩:=Ga.facts (j:=0) oM;clear Ga Gc hc Gb H;go_wp2;go_ret;exact ⟨rfl,HZ.out⟩
end
section
open Go.RowKit Go.Maps
def x5j (s:Nat) (ws:List (Nat × Nat)) (p:List Ins):Prop:=(ws=[]/\p=[])\/(ws≠[]/\∃ cm p1 p2 p3,cm < 18446744073709551616/\z0y (entW (64 * s) 0 ws) p1/\z0y [(64 * s,cm)] p2/\x9v ws [(64 * s,0)] p3/\p=p1++p2++p3)
def z9i:List (Nat × Nat)->List Nat
 | []=>[]
 | e :: l=>e.1 :: e.2 :: z9i l
theorem y2o:∀ (l:List (Nat × Nat)) (e:Nat × Nat),z9i (l++[e])=z9i l++[e.1,e.2]
 | [],e=>rfl
 | x :: l,e=>by
  have:=y2o l e;simp [z9i,this]
theorem y6o:∀ (l:List (Nat × Nat)) (x:Nat),x∈z9i l->∃ e∈l,x=e.1\/x=e.2
 | [],x,h=>by simp [z9i] at h
 | e :: l,x,h=>by
  simp only [z9i,List.mem_cons] at h;rcases h with h | h | h
  ·exact ⟨e,by simp,.inl h⟩
  ·exact ⟨e,by simp,.inr h⟩
  ·obtain ⟨y,hy,h2⟩:=y6o l x h
   exact ⟨y,by simp [hy],h2⟩
theorem y7u {a:DA} {L T:Nat} {w:World} {S:Fp} {cur:Nat->Nat} {F:Nat} (h:Dev a L T w S cur F) (g s n:Nat) (hB:Blk w g 353 (z1h a s n)) (hs:s+n<=L) (hn:26<=n)
  (A:Option Addr) (N c:Nat) (ws:List (Nat × Nat)) (hr:z0c w w.heap.size 2 A N (z0d ws)) (hd:Diff ws) (ho:∀ e∈ws,y8k L s n e.1) (hv:∀ e∈ws,e.2 < 18446744073709551616) (hN:N<=96) (hidle:cur (8 * s)=0) (ht:Tab w) :
  Calls Tryz.prog 136 #[.pointer (some ⟨g,0,none⟩),.slice A N c] w (w4o w (x5j s ws)):=by
 have hL:L<=4096:=by obtain ⟨ls,DQ,Ff,cs,Fe,D6,Fd⟩:=h;exact D6.hL
 have HD:=hid h;have Ga:=hid hB;have Dz:=hid hr;obtain ⟨i0,Dn,Ds,Dt,Du⟩:=info_parts z2i;obtain ⟨j0,D7,DJ,DK,DL⟩:=info_parts z5t;have D0:=hid ht;have Gd:Hid (∀ e∈ws,e.1 < 18446744073709551616/\e.2 < 18446744073709551616):=hid (fun e he=>⟨by have:=(ho e he).lt;omega,hv e he⟩);have DO:64 * s<=1000000:=oM;have G0:=hid (show ws.length=N by have:=hr.1;rw [z0z] at this;omega);have f0:w.cell? ⟨g,0,none⟩=some (memV a):=hB.cell 0;have hq:=y0k (some ⟨a.th 0,0,none⟩);have DC:=z1z (some ⟨a.th 0,0,none⟩);have Fb:=z4v (some ⟨a.th 0,0,none⟩);have Fc:=z3s ⟨a.th 0,0,none⟩;have GT:Hid (∀ W,Blw w W->Calls Tryz.prog 65 #[.pointer (some ⟨a.th 0,0,none⟩),.int .u64 ((64 * s:Nat):Int)] W fun e w'=>e=.returned (.int .u64 0)/\W=w'):=hid (fun W hW=>z3v h (64 * s) 0 oM oM (by rw [show 64 * s / 8=8 * s by omega];exact hidle) W hW);have D1:Hid (∀ i (h:i < ws.length),(ws[i]).1 < 18446744073709551616):=hid (fun i hi=>by have:=(ho _ (List.getElem_mem hi)).lt;omega);have GK:Hid (∀ k (hk:k < ws.length) W,Blw w W->Calls Tryz.prog 247 #[.pointer (some ⟨g,0,none⟩),.int .u64 ((ws[k]).1:Int)] W fun e w'=>e=.returned (.bool true)/\Blw W w'):=hid (fun k hk W hW =>
  y5u (h.below hW) g s n (hB.below hW hB.lt) hs _ (ho _ (List.getElem_mem hk)))
 have GQ:Hid (∀ W,Blw w W->Calls Tryz.prog 112 #[.pointer (some ⟨a.th 0,0,none⟩)] W fun e w'=>e=.returned (.int .i64 0)/\W=w'):=hid (fun W hW=>w5e (h.below hW) (j:=0) oM);have GS:Hid (∀ W,Blw w W->Calls Tryz.prog 248 #[.slice A N c] W (w7i W ws)):=hid (fun W hW=>w1r A N c ws W ((hr.below hW).more hW.size) hd D1.out oM);have GL:Hid (Blw w w):=Below.refl _ _;clear h hB hr ho hd;unfold memV at *;go_enter Tryz.func136,Tryz.ntmps136
 go_wp2;go_loopw [29] (fun i wr=>∃ (k:Nat),k<=N/\i=.int .i64 k/\Hid (Blw w wr)) (fun i _=>N - (Go.RowKit.intOf i).toNat)
 case atStart=>exact ⟨0,Nat.zero_le _,rfl,GL⟩
 case round =>
  clear GL;obtain ⟨k,hk,rfl,H⟩:=hrel;by_cases hlt:k < N
  ·obtain ⟨D9,b,DP,hA,D4,q0,q1⟩:=z5f (Dz.out.below H.out) hlt
   subst hA;have DM:(0:Int)<=(k:Int):=oM;have DN:(k:Int) < (N:Int):=oM;have GG:Blw w (wr.alloc (.cells #[.int .u64 ((ws[k]).1:Int),.int .u64 ((ws[k]).2:Int)] 114)):=H.out.alloc H.out.size _;have HA:=hid (GK.out k D9 _ GG);have G8:=hid GG;clear GG;generalize ws[k]=o at *;go_wp2_with fail
   refine HA.out.mono ?_;rintro e1 w2 ⟨rfl,Gi⟩;have GM:=hid (G8.out.trans (Gi.mono G8.out.size));clear Gi HA H G8;go_wp2;go_roundw
   case rel =>
    first
     | exact ⟨k+1,oM,by go_num,GM⟩
     | (
       repeat apply Exists.intro
       refine ⟨?_,rfl⟩;exact ⟨k+1,oM,by go_num,GM⟩)
   case measure=>simp [Go.RowKit.intOf];omega
  ·have D8:k=N:=oM
   subst D8;clear GK;go_wp2_with fail
   refine (GS.out wr H.out).mono ?_;rintro e1 w1 ⟨A1,m1,c1,rfl,DB,Gx,Gh⟩;have Gg:=hid (H.out.trans (Gh.mono H.out.size));have Gs:=hid Gx;have DD:m1=k:=by have:=G0.out;omega
   subst DD;have g0:w1.cell? ⟨g,0,none⟩=some (.iface 58 (.pointer (some ⟨a.th 0,0,none⟩))):=(Ga.out.below Gg.out Ga.out.lt).cell 0;have g1:w1.cell? ⟨g,1,none⟩=some (.int .u64 ((64 * s:Nat):Int)):=(Ga.out.below Gg.out Ga.out.lt).cell 1;have GP:=hid (GQ.out w1 Gg.out);clear DB Gx Gh GS H;go_wp2_with fail
   refine GP.out.mono ?_;rintro e w2 ⟨rfl,rfl⟩;have Gl:=hid (z3t Gg.out 1);generalize hz:64 * s=z at *;have HZ:=hid hz;clear hz;go_wp2_with fail
   go_cut [10] from 18 to 132 (fun v wx=>v=.int .u64 0/\Hid (Blw w1 wx))
   case first =>
    go_region_with (go_at_call 65;refine (GT.out _ Gl.out).mono ?_;rintro e w3 ⟨rfl,rfl⟩)
    all_goals (go_wp2_with fail;go_meet;exact ⟨rfl,(Below.refl _ w1).drew⟩)
   case rest =>
    obtain ⟨rfl,HW⟩:=hcut;rename World=>wz
    have Gc:=hid (Gg.out.trans (HW.out.mono Gg.out.size));have G9:=hid (GQ.out wz Gc.out);have Dy:=hid (z0r Gs.out HW.out);clear HW GP Gl GT;have GF:=Ga.out.below Gc.out Ga.out.lt;have d0:wz.cell? ⟨g,0,none⟩=some (.iface 58 (.pointer (some ⟨a.th 0,0,none⟩))):=GF.cell 0;have d1:wz.cell? ⟨g,1,none⟩=some (.int .u64 z):=by rw [<- HZ.out];exact GF.cell 1
    clear GF g0 g1;rcases Nat.eq_zero_or_pos m1 with h0 | h0
    ·subst h0
     have DI:ws=[]:=List.eq_nil_of_length_eq_zero G0.out;go_wp2_with fail
     refine G9.out.mono ?_;rintro e w2 ⟨rfl,rfl⟩;go_wp2;go_ret2;exact ⟨_,_,_,[],rfl,.inl ⟨DI,rfl⟩,World.ownsRow_nil _ _ _ _,Gc.out⟩
    ·have e9:((m1:Int) == 0)=false:=by rw [beq_eq_false_iff_ne];omega
     have Dr:=hid ((z0c.of_own Dy.out).more (nL _));have GX:Hid (wz.ownsRow wz.heap.size 114 2 (.slice none 0 0) 0 (z0d (entW z 0 (ws.take 0)))):=World.ownsRow_nil _ _ _ _;have Di:Hid (wz.ownsRow wz.heap.size 32 1 (.slice none 0 0) 0 (z0a (z9i (ws.take 0)))):=World.ownsRow_nil _ _ _ _;have Dd:Hid (Blw wz wz):=Below.refl _ _;clear hidle;go_wp2_with fail
     refine G9.out.mono ?_;rintro e w2 ⟨rfl,rfl⟩;clear G9 DC;go_wp2;go_loopw [12,13,78] (fun l u i wr=>∃ (t:Nat) (A2:Option Addr) (m2 c2:Nat) (A3:Option Addr) (m3 c3:Nat),t<=m1/\i=.int .i64 t/\l=.slice A2 m2 c2/\u=.slice A3 m3 c3/\Hid (m2=2 * t/\m3=2 * t)/\Hid (wr.ownsRow wz.heap.size 114 2 (.slice A2 m2 c2) m2 (z0d (entW z 0 (ws.take t))))/\Hid (wr.ownsRow wz.heap.size 32 1 (.slice A3 m3 c3) m3 (z0a (z9i (ws.take t))))/\Hid (Blw wz wr)) (fun _ _ i _=>m1 - (Go.RowKit.intOf i).toNat)
     case atStart=>exact ⟨0,_,_,_,_,_,_,Nat.zero_le _,rfl,rfl,rfl,hid ⟨rfl,rfl⟩,GX,Di,Dd⟩
     case round =>
      clear GX Di Dd;obtain ⟨t,A2,m2,c2,A3,m3,c3,ht,rfl,rfl,rfl,HM,HO,HU,HQ⟩:=hrel;by_cases hlt4:t < m1
      ·obtain ⟨DG,b,DP,hA,D4,q0,q1⟩:=z5f (Dr.out.below HQ.out) hlt4
       subst hA;have DM:(0:Int)<=(t:Int):=oM;have DN:(t:Int) < (m1:Int):=oM;have Dg:=hid (w8u ws t DG);have Gp:=hid (y6l z (ws.take t) 0 (ws[t]));have GR:=hid (y2o (ws.take t) (ws[t]));rw [<- Dg.out,show (ws.take t).length=t by simp;omega,Nat.zero_add] at Gp;rw [<- Dg.out] at GR;generalize ws[t]=e at *;have u1:IntKind.u64.wrap ((z:Int)+64)=((z+64:Nat):Int):=by rw [IntKind.wrap_u64];omega
       have u2:IntKind.u64.wrap (t:Int)=(t:Int):=by rw [IntKind.wrap_u64];omega
       have u3:IntKind.u64.wrap ((t:Int) * 16)=((16 * t:Nat):Int):=by rw [IntKind.wrap_u64];omega
       have u4:IntKind.u64.wrap (((z+64:Nat):Int)+((16 * t:Nat):Int))=((z+64+16 * t:Nat):Int):=by rw [IntKind.wrap_u64];omega
       have u5:IntKind.u64.wrap (((z+64+16 * t:Nat):Int)+8)=((z+64+16 * t+8:Nat):Int):=by rw [IntKind.wrap_u64];omega
       have Ge:=HM.out.1;have Gf:=HM.out.2;subst Ge;subst Gf;have Gb:=hid (Blk.new wr 114 #[.int .u64 e.1,.int .u64 e.2]);have G1:=hid (HO.out.alloc (.cells #[.int .u64 e.1,.int .u64 e.2] 114));have GE:=hid (HU.out.alloc (.cells #[.int .u64 e.1,.int .u64 e.2] 114));have Gu:=hid (HQ.out.alloc HQ.out.size (.cells #[.int .u64 e.1,.int .u64 e.2] 114));have GA:Hid (∀ g',(Value.slice A2 (2 * t) c2).ownBlock=some g'->g' < wr.heap.size):=fun g' hg'=>(HO.out.lt g' hg').2
       have f1:wr.cell? ⟨g,1,none⟩=some (.int .u64 z):=(World.cell?_of_block (HQ.out.block g (by have:=Ga.out.below Gc.out Ga.out.lt;exact this.lt))).trans d1;have Fa:g < wr.heap.size:=by have h1:=(Ga.out.below Gc.out Ga.out.lt).lt;have h2:=HQ.out.size;omega
       clear HO HQ HU HM;generalize z+64+16 * t+8=y2 at *;generalize z+64+16 * t=y at *;generalize z+64=x at *;generalize 16 * t=q at *;go_wp2_with (at_builtin;refine stop ?_)
       unfold Stop;refine z3a _ (.tmp 92) (.tmp 97) 108 rfl rfl wz.heap.size 114 i0 _ 2 16 Tryz.underlying108 Dn Ds Dt Du rfl oM (.slice A2 (2 * t) c2) (2 * t) (z0d (entW z 0 (ws.take t))) rfl (G1.out.alloc _) (wr.heap.size+1+1) (some ⟨wr.heap.size+1,0,none⟩) 1 1 [.int .u64 y,.int .u64 e.1] rfl (z0m _ _ (by simp) _ 1 2 114 _ rfl rfl) (z7x _ _) (by unfold maxLen;omega) oM (by have:=Gu.out.size;simp;simp at this;omega) ?_;intro A4 n4 c4 w5 hn4 Gk hg4 Gz;have Gj:Below wz.heap.size _ w5:=(Below.refl _ _).grown hg4 (by have:=Gu.out.size;simp;simp at this;omega) (fun j hj=>(G1.out.lt j hj).1);have G4:=(Gb.out.alloc (.cells #[.int .u64 y,.int .u64 e.1] 114)).grown hg4 (fun e=>by have:=GA.out _ e.symm;omega);have Gm:=hid G4;have d5:w5.cell? ⟨wr.heap.size,1,none⟩=some (.int .u64 e.2):=G4.cell 1;have Gt:=hid Gk;have GC:=hid ((GE.out.alloc (.cells #[.int .u64 y,.int .u64 e.1] 114)).kept hg4 (z1f GE.out G1.out (by decide)));have G2:=hid ((Gu.out.alloc Gu.out.size _).trans Gj);have GV:Hid (∀ g',(Value.slice A4 n4 c4).ownBlock=some g'->g'≠wr.heap.size):=hid (fun g' hg' e=>by
        rcases Gz with h | h
        ·have:=GA.out g' (h.symm.trans hg');omega
        ·rw [h] at hg';simp at hg';omega)
       have GH:n4=2 * t+1:=oM;subst GH;have DY:wr.heap.size < w5.heap.size:=G4.lt;clear hn4 Gk hg4 Gj Gz G4 Gb G1 GE Gu GA;go_wp2_with (at_builtin;refine stop ?_)
       unfold Stop;refine z0p _ (.tmp 99) (.tmp 105) 108 rfl rfl wz.heap.size 114 i0 _ 2 16 Tryz.underlying108 Dn Ds Dt Du rfl oM (.slice A4 (2 * t+1) c4) (2 * t+1) _ rfl (Gt.out.alloc _) (w5.heap.size+1) (some ⟨w5.heap.size,0,none⟩) 1 1 [.int .u64 y2,.int .u64 e.2] rfl (z0m _ _ rfl _ 1 2 114 _ rfl rfl) (z7x _ _) (by unfold maxLen;omega) oM (by have:=G2.out.size;simp;omega) ?_;intro A5 n5 c5 w6 GI Gy hg5 Gw;have GB:Hid (w6.ownsRow wz.heap.size 114 2 (.slice A5 n5 c5) n5 (z0d (entW z 0 (ws.take (t+1))))):=hid (by rw [Gp.out,show ∀ l:List (Nat × Nat),l++[(y,e.1),(y2,e.2)]=(l++[(y,e.1)])++[(y2,e.2)] from fun l=>by simp,z6e,z6e];exact Gy);have G3:=hid ((G2.out.alloc G2.out.size _).trans Gw);have GD:=hid ((GC.out.alloc (.cells #[.int .u64 y2,.int .u64 e.2] 114)).kept hg5 (z1f GC.out Gt.out (by decide)));have G5:=(Gm.out.alloc (.cells #[.int .u64 y2,.int .u64 e.2] 114)).grown hg5 (fun e=>GV.out _ e.symm rfl);have d6:w6.cell? ⟨wr.heap.size,0,none⟩=some (.int .u64 e.1):=G5.cell 0;have d7:w6.cell? ⟨wr.heap.size,1,none⟩=some (.int .u64 e.2):=G5.cell 1;have DZ:wr.heap.size < w6.heap.size:=G5.lt;have GW:Hid (n5=2 * (t+1)):=hid oM;clear GI Gy hg5 Gw G5 Gt GC G2 Gm GV d5;go_wp2_with (at_builtin;refine stop ?_)
       unfold Stop;refine z0p _ (.tmp 107) (.tmp 112) 99 rfl rfl wz.heap.size 32 j0 _ 1 8 Tryz.underlying99 D7 DJ DK DL rfl oM (.slice A3 (2 * t) c3) (2 * t) _ rfl (GD.out.alloc _) (w6.heap.size+1) (some ⟨w6.heap.size,0,none⟩) 2 2 [.int .u64 e.1,.int .u64 e.2] rfl (z0m _ _ rfl _ 2 1 32 _ rfl rfl) (z7x _ _) (by unfold maxLen;omega) oM (by have:=G3.out.size;simp;omega) ?_;intro A6 n6 c6 w7 hn6 ho6 hg6 hb6;have Dj:Hid (w7.ownsRow wz.heap.size 32 1 (.slice A6 n6 c6) n6 (z0a (z9i (ws.take (t+1))))):=hid (by rw [GR.out];show w7.ownsRow _ _ _ _ _ (z0a (z9i (ws.take t)++[e.1,e.2]));unfold z0a;rw [List.map_append];exact ho6);have GZ:=hid ((GB.out.alloc (.cells #[.int .u64 e.1,.int .u64 e.2] 32)).kept hg6 (z1f GB.out GD.out (by decide)));have De:=hid ((G3.out.alloc G3.out.size _).trans hb6);have GU:Hid (n5=2 * (t+1)/\n6=2 * (t+1)):=hid ⟨GW.out,oM⟩;clear hn6 ho6 hg6 hb6 GB GD G3 GW d6 d7;go_wp2;go_roundw
       case rel =>
        first
         | exact ⟨t+1,_,_,_,_,_,_,oM,by go_num,rfl,rfl,GU,GZ,Dj,De⟩
         | (
           repeat apply Exists.intro
           refine ⟨?_,rfl⟩;exact ⟨t+1,_,_,_,_,_,_,oM,by go_num,rfl,rfl,GU,GZ,Dj,De⟩)
       case measure=>simp [Go.RowKit.intOf];omega
      ·have DH:m1=t:=oM
       subst DH;have DF:ws.take m1=ws:=List.take_of_length_le (by have:=G0.out;omega);rw [DF] at HO HU;have Ge:=HM.out.1;have Gf:=HM.out.2;subst Ge;subst Gf;have Gn:=hid (Gc.out.trans (HQ.out.mono Gc.out.size));have Dk:=hid (x9p A3 (2 * m1) c3 wr.heap.size (z9i ws) wr (z0c.of_own HU.out) (fun x hx=>by
        obtain ⟨e,he,h | h⟩:=y6o ws x hx
        ·rw [h];exact (Gd.out e he).1
        ·rw [h];exact (Gd.out e he).2) oM (D0.out.below Gn.out))
       have u1:IntKind.u64.wrap (m1:Int)=(m1:Int):=by rw [IntKind.wrap_u64];omega
       go_wp2_with fail
       refine Dk.out.mono ?_;rintro e w2 ⟨v,hv,rfl,rfl⟩;have u2:IntKind.u64.wrap (v:Int)=(v:Int):=by rw [IntKind.wrap_u64];omega
       obtain ⟨cm,DT,D5⟩:∃ cm:Nat,bits BinOp.or IntKind.u64 (m1:Int) ((v:Int) * 4294967296)=(cm:Int)/\cm < 18446744073709551616:=by
        refine ⟨m1+v * 4294967296,?_,oM⟩;have h:=Go.u64_or32 (y:=(m1:Int)) (x:=(v:Int) * 4294967296) oM oM oM oM oM;rw [h];omega
       have Dm:ws.length=m1:=G0.out;have Gb:=hid (Ga.out.below Gn.out Ga.out.lt);have Df:=hid (z1q A2 (2 * m1) c2 _ wr (z0c.of_own HO.out) oM oM (fun e he=>by
        obtain ⟨j2,h1,h2,_⟩:=z9p _ _ _ _ he;omega))
       have Dx:Hid (∀ W,Blw wr W->Calls Tryz.prog 170 #[.pointer (some ⟨g,0,none⟩),.int .u64 cm] W (z2s W (z0y [(z,cm)]))):=hid (fun W hW=>by
        have h:=y4q a s n g cm W (Gb.out.below hW Gb.out.lt) oM;rw [HZ.out] at h;exact h)
       have Dw:Hid (∀ W,Blw wr W->Calls Tryz.prog 250 #[.pointer (some ⟨g,0,none⟩),.slice A1 m1 c1] W (z2s W (x9v ws [(z,0)]))):=hid (fun W hW=>by
        have hr:=Dr.out.below (HQ.out.trans (hW.mono HQ.out.size));have h:=x3r a s n g A1 m1 c1 ws W (hr.more (Nat.le_trans HQ.out.size hW.size)) h0 oM (fun e he=>(Gd.out e he).1) (Gb.out.below hW Gb.out.lt) oM;rw [HZ.out] at h;exact h)
       clear Dk HU HO;go_wp2_with fail
       refine Df.out.mono ?_;rintro e1 w4 ⟨B1,n1,d1,p1,rfl,Dp,Gx,Gh⟩;have Da:=hid Dp;have Gs:=hid Gx;have GN:=hid Gh;have Gr:=hid (Dx.out w4 Gh);clear Dp Gx Gh Df;go_wp2_with fail
       refine Gr.out.mono ?_;rintro e1 w5 ⟨B2,n2,D3,p2,rfl,Dq,GJ,Gi⟩;have Db:=hid Dq;have GO:=hid (GN.out.trans (Gi.mono GN.out.size));have DU:n1<=390:=by
        have h1:=Gs.out.1;have h2:=z2p Da.out;rw [z0v] at h1;rw [y4f] at h2;omega
       have DV:n2<=3:=by
        have h1:=GJ.1;have h2:=z2p Db.out;rw [z0v] at h1;simp at h2;omega
       have Dh:=hid (y0a B1 B2 n1 d1 n2 D3 p1 p2 w5 (z0c.of_own (z0r Gs.out Gi)) (z0c.of_own GJ) oM oM);clear Dq GJ Gi Gr Gs;go_wp2_with fail
       refine Dh.out.mono ?_;rintro e1 w6 ⟨B3,n3,d3,rfl,DE,Do,Dl⟩;have GY:=hid Do;have G6:=hid (GO.out.trans (Dl.mono GO.out.size));have Gq:=hid (Dw.out w6 G6.out);have DW:n3<=393:=oM;clear DE Do Dl Dh;go_wp2_with fail
       refine Gq.out.mono ?_;rintro e1 w7 ⟨B4,n4,d4,p4,rfl,Gz,Gk,Gj⟩;have Dc:=hid Gz;have G7:=hid (G6.out.trans (Gj.mono G6.out.size));have DX:n4<=200:=by
        have h1:=Gk.1;have h2:=x7l Dc.out;rw [z0v] at h1;simp at h2;omega
       have Gv:=hid (y0a B3 B4 n3 d3 n4 d4 (p1++p2) p4 w7 (z0c.of_own (z0r GY.out Gj)) (z0c.of_own Gk) oM oM);clear Gz Gk Gj Gq GY;go_wp2_with fail
       refine Gv.out.mono ?_;rintro e1 w8 ⟨B5,n5,d5,rfl,GI,Gy,Gw⟩;have Gt:=hid Gy;have Dv:=hid (Gn.out.trans ((G7.out.trans (Gw.mono G7.out.size)).mono Gn.out.size));have D2:=hid (Nat.le_trans Gn.out.size G7.out.size);clear GI Gy Gw Gv;go_wp2;go_ret2;have hz:=HZ.out;subst hz;exact ⟨_,_,_,_,rfl,.inr ⟨fun h=>by rw [h] at Dm;simp at Dm;omega,cm,p1,p2,p4,D5,Da.out,Db.out,Dc.out,rfl⟩,z6q Gt.out D2.out,Dv.out⟩
end
section
open Go.RowKit
theorem y1w {a:DA} {L T:Nat} {w:World} {S:Fp} {cur:Nat->Nat} (h:Dev a L T w S cur 0) (ht:Tab w) (hg:¬ S 1) (s n K:Nat) (hn:32<=n) (hs:s+n<=L) (hK:n / 32=K) (hT:T+3 * K<=1000000000) :
  Calls Tryz.prog 75 #[memV a,.int .i64 s,.int .i64 n] w (z2c a L (T+3 * K) w S (arC cur s K) 0 (.int .i64 0)):=by
 have HA:=hid (y0g h ht hg s n K hn hs hK hT);clear h ht;unfold memV at *;go_enter Tryz.func75,Tryz.ntmps75
 go_wp2_with fail
 refine HA.out.mono ?_;rintro e w1 ⟨rfl,h1⟩;have H1:=hid h1;clear h1;go_wp2;go_ret;exact ⟨rfl,H1.out⟩
end
section
open Go.RowKit Go.Maps Go.Shelf
def rdG (s:Nat) (cur:Nat->Nat) (ws:List (Nat × Nat)) (cm:Nat):Nat->Nat:=if ws=[] then cur else wrS (wrS (wrS (wrS cur (entW (64 * s) 0 ws)) [(64 * s,cm)]) ws) [(64 * s,0)]
theorem z5e (cur:Nat->Nat) (o v i:Nat):wrS cur [(o,v)] i=if i=o / 8 then v else cur i:=rfl
section
variable {cur:Nat->Nat} {ws:List (Nat × Nat)} {cm s:Nat}
theorem y5a {L:Nat} (hg:∀ e∈ws,y8k L s 26 e.1) (hn:(ws.map (·.1)).Nodup) {e:Nat × Nat} (he:e∈ws):rdG s cur ws cm (e.1 / 8)=e.2:=by
 unfold rdG;have h1:=(hg e he).out;have h2:=(hg e he).al;rw [if_neg (fun h=>by rw [h] at he;simp at he),z5e,if_neg oM];exact y5n ws _ hn (fun x hx=>(hg x hx).al) e he
theorem w2r (hl:ws.length<=96) {i:Nat} (hi:i < 8 * s\/8 * s+208<=i) (ho:∀ e∈ws,e.1 / 8≠i):rdG s cur ws cm i=cur i:=by
 unfold rdG;split
 ·rfl
 ·rw [z5e,if_neg oM,z2k ws _ _ ho,z5e,if_neg oM,x9q s ws 0 i cur oM]
theorem w2q (h:cur (8 * s)=0):rdG s cur ws cm (8 * s)=0:=by
 unfold rdG;split
 ·exact h
 ·rw [z5e,if_pos oM]
theorem w6e (h:∀ i,cur i < 18446744073709551616) (hg:∀ e∈ws,e.1 < 18446744073709551616/\e.2 < 18446744073709551616) (hc:cm < 18446744073709551616) (i:Nat):rdG s cur ws cm i < 18446744073709551616:=by
 unfold rdG;split
 ·exact h i
 ·refine z5d _ _ (z5d _ _ (z5d _ _ (z5d _ _ h ?_) ?_) (fun e he=>(hg e he).2)) ?_ i
  ·intro e he
   obtain ⟨j,_,_,x,hx,h1 | h1⟩:=z9p _ _ _ _ he
   ·rw [h1];exact (hg x hx).1
   ·rw [h1];exact (hg x hx).2
  ·intro e he
   simp at he;subst he;exact hc
  ·intro e he
   simp at he;subst he;show 0 < _;omega
end
theorem x8t {a:DA} {L T s:Nat} {w:World} {S:Fp} {cur:Nat->Nat} (h:Dev a L T w S cur 0) {A:Option Addr} {m c base:Nat} {p:List Ins} {ws:List (Nat × Nat)} (ho:w.ownsRow base 284 3 (.slice A m c) m (z0j p)) (hb:∀ k,S k->k < base) (hp:x5j s ws p)
  (hw:∀ e∈ws,y8k L s 26 e.1) (hv:∀ e∈ws,e.2 < 18446744073709551616) (hl:ws.length<=96) (hsL:s+26<=L) (hT:T+800<=1000000000) :
  Calls Tryz.prog 78 #[.slice A m c,memV a] w fun e w'=>∃ cm,cm < 18446744073709551616/\z2c a L (T+800) w S (rdG s cur ws cm) 0 (.int .i64 0) e w':=by
 have hL:L<=4096:=by obtain ⟨ls,Gp,Gs,cs,Gr,Gf,Gq⟩:=h;exact Gf.hL
 rcases hp with ⟨rfl,rfl⟩ | ⟨hne,cm,p1,p2,p3,hcm,hp1,hp2,⟨p4,p5,hp4,hp5,rfl⟩,rfl⟩
 ·have hm:m=0:=by have:=ho.1;simp [z0j] at this;omega
  subst hm;refine (y5d h A 0 c [] (z0c.of_own ho) (y9t ho hb) ⟨rfl,fun _ _ h=>h⟩ oM oM).mono ?_;rintro e w' ⟨he,S',hd,hc,Gd⟩;exact ⟨0,oM,he,S',hd.more oM oM,hc,Gd⟩
 ·have h1:∀ e∈entW (64 * s) 0 ws,e.1 % 8=0/\e.1 < 64 * L/\e.2 < 18446744073709551616:=fun e he=>by
   obtain ⟨j,hj,h1,x,hx,h2⟩:=z9p _ _ _ _ he;have:=(hw x hx).lt;have:=hv x hx;refine ⟨oM,oM,?_⟩;rcases h2 with h2 | h2 <;> omega
  have h2:∀ v,v < 18446744073709551616->∀ e∈[((64 * s:Nat),v)],e.1 % 8=0/\e.1 < 64 * L/\e.2 < 18446744073709551616:=fun v hv e he=>by
   simp only [List.mem_cons,List.not_mem_nil,or_false] at he;subst he;exact ⟨by show 64 * s % 8=0;omega,by show 64 * s < 64 * L;omega,hv⟩
  have h3:∀ e∈ws,e.1 % 8=0/\e.1 < 64 * L/\e.2 < 18446744073709551616:=fun e he=>⟨(hw e he).al,(hw e he).lt,hv e he⟩
  obtain ⟨Gg,Gk,Ga⟩:=z1o hp1 h1 cur;obtain ⟨Gh,Gl,Gb⟩:=z1o hp2 (h2 cm hcm) (wrS cur (entW (64 * s) 0 ws));obtain ⟨Gi,Gm,Ge⟩:=z1o hp4 h3 (wrS (wrS cur (entW (64 * s) 0 ws)) [(64 * s,cm)]);obtain ⟨Gj,Gn,Gc⟩:=z1o hp5 (h2 0 oM) (wrS (wrS (wrS cur (entW (64 * s) 0 ws)) [(64 * s,cm)]) ws);have hm:(p1++p2++(p4++p5)).length=m:=by have:=ho.1;rw [z0v] at this;omega
  rw [y4f] at Ga;simp only [List.length_append,List.length_cons,List.length_nil] at hm Gb Gc;refine (y5d h A m c _ (z0c.of_own ho) (y9t ho hb) (z7p (z7p Gg Gh) (z7p Gi Gj)) oM oM).mono ?_;rintro e w' ⟨he,S',hd,hc,Gd⟩;rw [z6k,z6k,z6k,Gk,Gl,Gm,Gn] at hd;have Go:rdG s cur ws cm=wrS (wrS (wrS (wrS cur (entW (64 * s) 0 ws)) [(64 * s,cm)]) ws) [(64 * s,0)]:=by unfold rdG;rw [if_neg hne]
  rw [<- Go] at hd;exact ⟨cm,hcm,he,S',hd.more oM oM,hc,Gd⟩
def w6u (a:DA) (L s T':Nat) (w:World) (S:Fp) (cur:Nat->Nat) (ws:List (Nat × Nat)) (e:Ending) (w':World):Prop:=∃ cm,cm < 18446744073709551616/\z2c a L T' w S (rdG s cur ws cm) 0 (.int .i64 0) e w'
theorem y8y {a:DA} {L T s:Nat} {w:World} {S:Fp} {cur:Nat->Nat} (h:Dev a L T w S cur 0) (g:Nat) (hB:Blk w g 353 (z1h a s 26))
  (A:Option Addr) (N c:Nat) (ws:List (Nat × Nat)) (hr:z0c w w.heap.size 2 A N (z0d ws)) (hd:Diff ws) (ho:∀ e∈ws,y8k L s 26 e.1) (hv:∀ e∈ws,e.2 < 18446744073709551616) (hN:N<=96) (hidle:cur (8 * s)=0) (ht:Tab w) (hsL:s+26<=L) (hT:T+800<=1000000000) :
  Calls Tryz.prog 137 #[.pointer (some ⟨g,0,none⟩),.slice A N c] w (w6u a L s (T+800) w S cur ws):=by
 have HP:=hid (y7u h g s 26 hB hsL oM A N c ws hr hd ho hv hN hidle ht);have Ge:ws.length=N:=by have:=hr.1;rw [z0z] at this;omega
 have Gh:Hid (∀ W A1 m1 c1 p,Blw w W->W.ownsRow w.heap.size 284 3 (.slice A1 m1 c1) m1 (z0j p)->x5j s ws p->Calls Tryz.prog 78 #[.slice A1 m1 c1,memV a] W fun e w'=>∃ cm,cm < 18446744073709551616/\z2c a L (T+800) W S (rdG s cur ws cm) 0 (.int .i64 0) e w'):=hid (fun W A1 m1 c1 p hW hown hp =>
  x8t (h.below hW) hown h.lt hp ho hv oM hsL hT)
 have Gg:=hid hB;clear h hB hr hd ho hv hN hidle ht Ge;go_enter Tryz.func137,Tryz.ntmps137
 go_wp2_with fail
 refine HP.out.mono ?_;rintro e W1 ⟨A1,m1,c1,p,rfl,hp,Gi,Ga⟩;have f0:W1.cell? ⟨g,0,none⟩=some (memV a):=(Gg.out.below Ga Gg.out.lt).cell 0;have HR:=hid (Gh.out W1 A1 m1 c1 p Ga Gi hp);have Gf:=hid Ga;unfold memV at f0;unfold memV at HR;clear hp Gi Ga HP Gh;go_wp2_with fail
 refine HR.out.mono ?_;rintro e W2 ⟨cm,Gj,rfl,S2,Gc,Gb,Gd⟩;have H2:=hid (show Dev a L (T+800) W2 S2 (rdG s cur ws cm) 0/\Chg S W1 W2/\Grew S S2 W1 from ⟨Gc,Gb,Gd⟩);clear Gc Gb Gd HR;go_wp2;go_ret;obtain ⟨Gc,Gb,Gd⟩:=H2.out;exact ⟨cm,Gj,rfl,S2,Gc,(Chg.of_below Gf.out).trans Gb (Grew.refl _ _),fun k hk=>(Gd k hk).imp id (fun h=>Nat.le_trans Gf.out.size h)⟩
end
section
open Go.RowKit Go.Maps
theorem w6f {a:DA} {L T:Nat} {w:World} {S:Fp} {cur:Nat->Nat} (h:Dev a L T w S cur 0) {A:Option Addr} {m c base:Nat} {p:List Ins} {ln cl g:Nat} (ho:w.ownsRow base 284 3 (.slice A m c) m (z0j p)) (hb:∀ k,S k->k < base) (hp:x9u ln cl g p) (hl:ln+32<=L) (hc:cl < 5) (hg:g < 65536) (hT:T+200<=1000000000) :
  Calls Tryz.prog 78 #[.slice A m c,memV a] w (z2c a L (T+200) w S (fmtR cur ln cl g) 0 (.int .i64 0)):=by
 obtain ⟨p1,p2,rfl,Gg,Gh⟩:=hp;obtain ⟨Gd,Gi,Ga⟩:=z1o (L:=L) Gg (fun e he=>by have:=z7l hc hg he;exact ⟨this.1,oM,this.2.2.2⟩) cur;obtain ⟨Ge,Gj,Gb⟩:=z1o (L:=L) Gh (fun e he=>by simp at he;subst he;exact ⟨by show 64 * ln % 8=0;omega,by show 64 * ln < 64 * L;omega,x7f hc hg⟩) (wrS cur (fmtW ln cl g));have hm:(p1++p2).length=m:=by have:=ho.1;rw [z0v] at this;omega
 have Gk:=z2u cl;rw [x1c] at Ga;simp only [List.length_append,List.length_cons,List.length_nil] at hm Gb;refine (y5d h A m c _ (z0c.of_own ho) (y9t ho hb) (z7p Gd Ge) oM oM).mono ?_;rintro e w' ⟨he,S',hd,Gc,Gf⟩;rw [z6k,Gi,Gj] at hd;exact ⟨he,S',hd.more oM oM,Gc,Gf⟩
def z7b (a:DA) (L T s n K:Nat) (x:HA) (cs:Nat->CS) (f:Nat->Option Nat) (N m b0:Nat) (S:Fp) (cur:Nat->Nat) (w:World) (cl:Nat) (e:Ending) (w':World):Prop :=
 ∃ k S',k < K/\(cs k).dv=false/\e=.returned (.tuple #[.int .i64 ((s+32 * k:Nat):Int),.int .i64 0])/\DS a L (T+200) s n K x (updC cs k (newC cl (cs k).g)) f N m b0 S' (fmtR cur (s+32 * k) cl (cs k).g) w'/\Chg (fun j=>S j\/x.fp j) w w'/\Grew S S' w
section
variable {a:DA} {L T s n K:Nat} {x:HA} {cs:Nat->CS} {f:Nat->Option Nat} {N m b0:Nat} {S:Fp} {cur:Nat->Nat} {w w':World}
theorem DS.undiv (h:DS a L T s n K x cs f N m b0 S cur w) {k:Nat} (hk:k < K) (hd:(cs k).dv=false):cur (8 * (s+32 * k))=z4d (cs k).g/\0 < (cs k).g/\(cs k).g < 65536:=by
 have:=h.ok k hk;unfold CSok at this;rw [hd] at this;exact this
theorem DS.claimed {T':Nat} {S':Fp} {w1:World} {k cl:Nat} (h:DS a L T s n K x cs f N m b0 S cur w) (hk:k < K) (hd:(cs k).dv=false) (hc:cl < 5) (hdev:Dev a L T' w1 S' (fmtR cur (s+32 * k) cl (cs k).g) 0) (hch:Chg S w w1) (hg:Grew S S' w) :
  DS a L T' s n K x (updC cs k (newC cl (cs k).g)) f N m b0 S' (fmtR cur (s+32 * k) cl (cs k).g) ((w1.setCell ⟨x.pl,x.po+k * 4+1,none⟩ (.int .i64 cl)).setCell ⟨x.pl,x.po+k * 4+2,none⟩ (.int .i64 0)) /\
   Chg (fun j=>S j\/x.fp j) w ((w1.setCell ⟨x.pl,x.po+k * 4+1,none⟩ (.int .i64 cl)).setCell ⟨x.pl,x.po+k * 4+2,none⟩ (.int .i64 0)):=by
 obtain ⟨hw,Gl,Gh⟩:=h.undiv hk hd;obtain ⟨o1,o2,o3,o4,o5⟩:=h.off;obtain ⟨z1,z2,z3,z4,z5⟩:=h.hs.lt;have Gc:HS a s n K x cs f N m w1:=h.hs.chg hch o1 o2 o3 o4 o5;obtain ⟨n1,n2,n3,n4,n5,n6,n7,n8⟩:=Gc.pl_ne;have Ge:Chg x.fp w1 ((w1.setCell ⟨x.pl,x.po+k * 4+1,none⟩ (.int .i64 cl)).setCell ⟨x.pl,x.po+k * 4+2,none⟩ (.int .i64 0)):=((Chg.refl _ w1).setCell (.inl (.inl rfl)) _).setCell (.inl (.inl rfl)) _;have Gf:Chg (fun j=>j=x.pl) w1 ((w1.setCell ⟨x.pl,x.po+k * 4+1,none⟩ (.int .i64 cl)).setCell ⟨x.pl,x.po+k * 4+2,none⟩ (.int .i64 0)):=((Chg.refl (fun j=>j=x.pl) w1).setCell (p:=⟨x.pl,x.po+k * 4+1,none⟩) (.inl rfl) _).setCell (p:=⟨x.pl,x.po+k * 4+2,none⟩) (.inl rfl) _;have Go:∀ j,j≠k->∀ i,8 * (s+32 * j)<=i->i < 8 * (s+32 * j)+256->(i < 8 * (s+32 * k)\/8 * (s+32 * k)+256<=i):=fun j hj i h1 h2=>oM
 have Gi:∀ j,j < K->CSok (fmtR cur (s+32 * k) cl (cs k).g) (s+32 * j) (updC cs k (newC cl (cs k).g) j):=fun j hj=>by
  unfold updC;by_cases e:j=k
  ·subst e;rw [if_pos rfl];exact w5u hc Gl Gh
  ·rw [if_neg e]
   exact (h.ok j hj).same (fun i h1 h2 _=>z9q hc Gh (Go j e i h1 h2))
 have Gj:=Gc.plc.claim hk (newC cl (cs k).g);rw [show (newC cl (cs k).g).cls=(cl:Int) from rfl,show (newC cl (cs k).g).own=0 from rfl] at Gj;have Gn:HS a s n K x (updC cs k (newC cl (cs k).g)) f N m ((w1.setCell ⟨x.pl,x.po+k * 4+1,none⟩ (.int .i64 cl)).setCell ⟨x.pl,x.po+k * 4+2,none⟩ (.int .i64 0)) :=
  ⟨Gf.blk Gc.heap n8,Gj,Gc.res.chg Gf (fun e=>n1 e.symm),Gc.held.chg Gf (fun e=>n2 e.symm),Gc.ne⟩
 have Gd:∀ g,g < b0->¬ S g:=fun g hgb hs=>by have:=h.lo.2.2.2.2.2.2.2 g hs;omega
 have Gb:∀ g,g < b0->¬ x.fp g:=fun g hgb hs=>by
  obtain ⟨l1,l2,l3,l4,l5,l6,l7,l8⟩:=h.lo;rcases hs with h | h | h <;> omega
 have Ga:∀ g,¬ S g->g < w.heap.size->¬ S' g:=fun g h1 h2=>hg.off ⟨h2,h1⟩
 have Gk:∀ g,S' g->¬ x.fp g:=fun g h1 h2=>by
  rcases h2 with rfl | rfl | rfl
  ·exact Ga _ o3 z3 h1
  ·exact Ga _ o4 z4 h1
  ·exact Ga _ o5 z5 h1
 obtain ⟨l1,l2,l3,l4,l5,l6,l7,l8⟩:=h.lo;refine ⟨⟨hdev.chg Ge Gk,Gn,Gi,w1d hc Gh h.bnd,?_,(h.tab.chg hch (Gd _ l1)).chg Ge (Gb _ l1),?_,⟨l1,l2,l3,l4,l5,l6,l7,fun j hj=>?_⟩,⟨Ga _ o1 z1,Ga _ o2 z2,Ga _ o3 z3,Ga _ o4 z4,Ga _ o5 z5⟩,h.hK⟩,?_⟩
 ·rintro o p hop
  obtain ⟨j,i,hj,Gg,hi,ho,hp⟩:=h.res o p hop;have Gm:j≠k:=fun e=>by rw [e,hd] at Gg;cases Gg
  have e:updC cs k (newC cl (cs k).g) j=cs j:=by unfold updC;rw [if_neg Gm]
  exact ⟨j,i,hj,by rw [e];exact Gg,by rw [e];exact hi,by rw [e];exact ho,hp⟩
 ·intro i hi
  have h1:=(World.cell?_of_block (w:=w) (a:=⟨0,i,none⟩) (hch.block _ h.pay.size (Gd _ l2))).trans (h.pay i hi);exact (World.cell?_of_block (w:=w1) (Ge.block _ (Nat.lt_of_lt_of_le h.pay.size hch.size) (Gb _ l2))).trans h1
 ·rcases hg j hj with h' | h'
  ·exact l8 j h'
  ·omega
 ·exact (hch.mono (fun j hj => .inl hj)).trans (S':=x.fp) Ge (fun j hj => .inl (.inr hj))
def w3l (w:World) (g:Nat) (er hp:Value) (wx:World):Prop:=er=.int .i64 0/\∃ gh,hp=.pointer (some ⟨gh,0,none⟩)/\Blk wx gh 304 #[.int .i64 (-1),.int .i64 (-1),.int .u16 g]/\Blw w wx
theorem x0z {w wx:World} {g gh:Nat} (h1:Blk wx gh 304 #[.int .i64 (-1),.int .i64 (-1),.int .u16 g]) (h2:Blw w wx):Hid (w3l w g (.int .i64 0) (.pointer (some ⟨gh,0,none⟩)) wx):=hid ⟨rfl,gh,rfl,h1,h2⟩
theorem x3l (h:DS a L T s n K x cs f N m b0 S cur w) (cl:Nat) (hc:cl < 5) (hf:∃ k,k < K/\(cs k).dv=false) (hT:T+200<=1000000000) :
  Calls Tryz.prog 377 #[.pointer (some ⟨x.gs,0,none⟩),.int .i64 0,.int .i64 cl] w (z7b a L T s n K x cs f N m b0 S cur w cl):=by
 have Gl:=h.few;have hL:=h.hL;have HD:=hid h;have Gu:=hid (w2m h.hs.plc Gl.1 oM hf);have Gt:=hid (z1v cl hc w h.pay);have Gq:=hid (z9l h.dev);have hm:=z1z (some ⟨a.th 0,0,none⟩);obtain ⟨cc,g0,g1⟩:=h.hs.plc.sets;have e1:((perC cl:Int) == 0)=false:=by rw [beq_eq_false_iff_ne];have:=z2u cl;omega
 generalize perC cl=r at *;have HC:=hid hc;clear h hf hc;unfold HA.p at *;unfold z7b;unfold memV at g0;dsimp only at *;go_enter Tryz.func377,Tryz.ntmps377
 go_wp2_with (first
  | (go_at_call 207;refine Gt.out.mono ?_;rintro e w1 ⟨rfl,rfl⟩)
  | (go_at_call 112;refine Gq.out.mono ?_;rintro e w1 ⟨rfl,rfl⟩)
  | (go_at_call 396;refine Gu.out.mono ?_;rintro e w1 ⟨k,hk,Gg,rfl,rfl⟩;refine stop ?_))
 unfold Stop;obtain ⟨G4,Gm,Gi⟩:=HD.out.undiv hk Gg;have Gs:Hid (∀ W,Blw w W->Calls Tryz.prog 293 #[.iface 58 (.pointer (some ⟨a.th 0,0,none⟩)),.int .i64 ((s+32 * k:Nat):Int)] W fun e w'=>e=.returned (.tuple #[.agg #[.int .i64 (-1),.int .i64 (-1),.int .u16 ((cs k).g:Int)],.int .i64 0])/\Blw W w'):=hid (fun W hW=>z8e (HD.out.dev.below hW) (HD.out.tab.below hW) (s+32 * k) (cs k).g (HD.out.line hk) Gm Gi G4);have Gv:Hid (∀ W,Blw w W->Calls Tryz.prog 379 #[.int .i64 ((s+32 * k:Nat):Int),.agg #[.int .i64 cl,.int .i64 0,.int .u16 ((cs k).g:Int)]] W (y0d W (x9u (s+32 * k) cl (cs k).g))):=hid (fun W hW=>x3c (s+32 * k) cl (cs k).g (by have:=HD.out.line hk;omega) HC.out Gm Gi W (HD.out.tab.below hW) (HD.out.pay.below hW));have Gy:Hid (∀ W A m c p,Blw w W->W.ownsRow w.heap.size 284 3 (.slice A m c) m (z0j p)->x9u (s+32 * k) cl (cs k).g p->Calls Tryz.prog 78 #[.slice A m c,.iface 58 (.pointer (some ⟨a.th 0,0,none⟩))] W (z2c a L (T+200) W S (fmtR cur (s+32 * k) cl (cs k).g) 0 (.int .i64 0))):=hid (fun W A m c p hW ho hp=>w6f (HD.out.dev.below hW) ho HD.out.dev.lt hp (HD.out.line hk) HC.out Gi hT);have Gp:Hid (∀ S' w1,Dev a L (T+200) w1 S' (fmtR cur (s+32 * k) cl (cs k).g) 0->Chg S w w1->Grew S S' w->_):=hid (fun S' w1 h1 h2 h3=>HD.out.claimed (T':=T+200) (S':=S') (w1:=w1) hk Gg HC.out h1 h2 h3)
 have Gh:Hid (∀ W,Plc a s K ⟨x.gs,x.pl,x.po⟩ cs W->W.cell? ⟨x.pl,x.po+k * 4,none⟩=some (.int .i64 ((s+32 * k:Nat):Int))/\W.cell? ⟨x.pl,x.po+k * 4+1,none⟩=some (.int .i64 (-1))/\W.cell? ⟨x.pl,x.po+k * 4+2,none⟩=some (.int .i64 (-1))):=hid (fun W hW=>by
  obtain ⟨q0,q1,q2,_⟩:=hW.facts hk;unfold CS.cls CS.own at *;rw [Gg] at q1 q2;exact ⟨q0,q1,q2⟩)
 have Gr:=hid (show k < K/\(cs k).dv=false from ⟨hk,Gg⟩);obtain ⟨q0,q1,q2⟩:=Gh.out w HD.out.hs.plc;obtain ⟨_,GD,GE,_,_⟩:=HD.out.hs.lt;clear G4 Gm Gi hk Gg Gu Gt Gq q1 q2;generalize hgg:(cs k).g=g at *;have G9:=hid hgg;clear hgg;generalize hv:((s+32 * k:Nat):Int)=v at *;have HV:=hid hv;clear hv;go_wp2_with fail
 go_cut [10,11] from 43 to 94 (fun er hp wx=>Hid (w3l w g er hp wx))
 case first =>
  go_region_with (go_at_call 293;refine (Gs.out _ (by first | exact (Below.refl _ _).drew | exact (Below.refl _ _).drew.alloc (nL _) _)).mono ?_;rintro e w2 ⟨rfl,Gc⟩;have Ga:=hid Gc;(first | (have k2:Blk w2 w.heap.size 304 #[.int .i64 0,.int .i64 0,.int .u16 0]:=(Blk.new w.drew _ _).below Gc (Blk.new w.drew _ _).lt;have p0:w2.cell? ⟨w.heap.size,0,none⟩=some (.int .i64 0):=k2.cell 0;have p1:w2.cell? ⟨w.heap.size,1,none⟩=some (.int .i64 0):=k2.cell 1;have p2:w2.cell? ⟨w.heap.size,2,none⟩=some (.int .u16 0):=k2.cell 2;have z0:w2.frozen? ⟨w.heap.size,0,none⟩=false:=k2.frozen 0;have z1:w2.frozen? ⟨w.heap.size,1,none⟩=false:=k2.frozen 1;have z2:w2.frozen? ⟨w.heap.size,2,none⟩=false:=k2.frozen 2;have K2:Hid (Blk w2 w.heap.size 304 #[.int .i64 0,.int .i64 0,.int .u16 0]):=hid k2;clear k2) | (have k2:Blk w2 w.heap.size 304 #[.int .i64 0,.int .i64 0,.int .u16 0]:=((Blk.new w _ _).drew).below Gc ((Blk.new w _ _).drew).lt;have p0:w2.cell? ⟨w.heap.size,0,none⟩=some (.int .i64 0):=k2.cell 0;have p1:w2.cell? ⟨w.heap.size,1,none⟩=some (.int .i64 0):=k2.cell 1;have p2:w2.cell? ⟨w.heap.size,2,none⟩=some (.int .u16 0):=k2.cell 2;have z0:w2.frozen? ⟨w.heap.size,0,none⟩=false:=k2.frozen 0;have z1:w2.frozen? ⟨w.heap.size,1,none⟩=false:=k2.frozen 1;have z2:w2.frozen? ⟨w.heap.size,2,none⟩=false:=k2.frozen 2;have K2:Hid (Blk w2 w.heap.size 304 #[.int .i64 0,.int .i64 0,.int .u16 0]):=hid k2;clear k2) | skip);clear Gc)
  all_goals
   go_wp2_with fail
   go_meet;first
    | (
      have GB:=((K2.out.set_ 0 (.int .i64 (-1))).set_ 1 (.int .i64 (-1))).set_ 2 (.int .u16 g);have GA:Blw w w2:=by first | exact ((Below.refl w.heap.size w).drew.alloc (nL _) _).trans (Ga.out.mono (by simp)) | exact ((Below.refl w.heap.size w).alloc (nL _) _).drew.trans (Ga.out.mono (by simp))
      exact x0z GB (((GA.setCell (p:=⟨w.heap.size,0,none⟩) (nL _) _).setCell (p:=⟨w.heap.size,1,none⟩) (nL _) _).setCell (p:=⟨w.heap.size,2,none⟩) (nL _) _))
    | exact x0z (Blk.new _ _ _) (((Below.refl w.heap.size w).drew.trans Ga.out).alloc Ga.out.size _)
 case rest =>
  obtain ⟨rfl,gh,rfl,G6,Gz⟩:=hcut.out;have Gj:=hid G6;have Go:=hid Gz;clear G6 Gz hcut;clear Gs q0;have Gw:=hid (HD.out.hs.plc.below Go.out);obtain ⟨q0,q1,q2⟩:=Gh.out wc Gw.out;have k2:wc.cell? ⟨gh,2,none⟩=some (.int .u16 g):=Gj.out.cell 2;go_wp2_with fail
  refine z0k (fun w'=>Blw wc w') 14 [(true,0),(true,1),(true,2),(true,3),(true,4),(true,5),(true,6),(true,7),(true,8),(false,9),(true,10),(true,11),(true,12),(false,13)] (by kernel_rfl) (by kernel_rfl) (Below.refl _ _).drew ?_;clear q0 q1 q2 k2;refine tkS (.pointer (some ⟨x.pl,x.po+k * 4,none⟩)) (fun w' hS=>?_) ?_
  ·go_simp
  refine tkS (.pointer (some ⟨x.pl,x.po+k * 4,none⟩)) (fun w' hS=>?_) ?_
  ·go_simp
  refine tkS (.pointer (some ⟨x.pl,x.po+k * 4,none⟩)) (fun w' hS=>?_) ?_
  ·go_simp
  refine tkS (.int .i64 v) (fun w' hS=>?_) ?_
  ·have f0:w'.cell? ⟨x.pl,x.po+k * 4,none⟩=some (.int .i64 v):=(Gh.out w' (Gw.out.below hS)).1
   go_simp
  refine tkS (.int .i64 cl) (fun w' hS=>?_) ?_
  ·go_simp
  refine tkS (.int .i64 0) (fun w' hS=>?_) ?_
  ·go_simp
  refine tkS (.pointer (some ⟨gh,2,none⟩)) (fun w' hS=>?_) ?_
  ·go_simp
  refine tkS (.int .u16 g) (fun w' hS=>?_) ?_
  ·have f0:w'.cell? ⟨gh,2,none⟩=some (.int .u16 g):=(Gj.out.below hS Gj.out.lt).cell 2
   go_simp
  refine tkS (.agg #[.int .i64 cl,.int .i64 0,.int .u16 g]) (fun w' hS=>?_) ?_
  ·go_simp
  refine z0l (by rfl) ?_;go_wp2_with fail
  have Gd:Hid (Blw w wc.drew):=hid Go.out.drew;have Gf:=hid (Gv.out _ Gd.out);refine Gf.out.mono ?_;rintro e w2 ⟨A2,m2,c2,p2,rfl,G8,G7,Gc⟩;have Ga:=hid (Gd.out.trans (Gc.mono Gd.out.size));have Gx:=hid (Gy.out w2 A2 m2 c2 p2 Ga.out (z6q G7 Gd.out.size) G8);have Ge:Hid (Blw wc w2):=hid ((Below.refl _ wc).drew.trans Gc);clear G8 G7 Gc Gv Gf Gy Gd;go_wp2_with fail
  refine ⟨Ge.out,?_⟩;refine tkS (.tuple #[.slice A2 m2 c2,.int .i64 0]) (fun w' hS=>?_) ?_
  ·go_simp
  refine tkS (.slice A2 m2 c2) (fun w' hS=>?_) ?_
  ·go_simp
  refine tkS (.int .i64 0) (fun w' hS=>?_) ?_
  ·go_simp
  refine z0l (by rfl) ?_;go_wp2_with fail
  refine ⟨Ge.out,?_⟩;show wpList _ _ _ _ _ _;simp only [List.drop_succ_cons,List.drop_zero];go_wp2_with fail
  refine NoPanic.normal ?_;have g0:w2.cell? ⟨x.gs,0,none⟩=some (.iface 58 (.pointer (some ⟨a.th 0,0,none⟩))):=by
   obtain ⟨GC,h1,_⟩:=(HD.out.hs.plc.below Ga.out).sets;exact h1
  go_wp2_with fail
  refine Gx.out.mono ?_;rintro e w3 ⟨rfl,S3,G2,G0,G5⟩;have Gk:Chg S w w3:=(Chg.of_below Ga.out).trans G0 (Grew.refl _ _);have Gn:Grew S S3 w:=fun k hk=>(G5 k hk).imp id (fun h=>Nat.le_trans Ga.out.size h)
  obtain ⟨G3,G1⟩:=Gp.out S3 w3 G2 Gk Gn;have HE:=hid (show DS a L (T+200) s n K x (updC cs k (newC cl g)) f N m b0 S3 (fmtR cur (s+32 * k) cl g) _/\_/\Grew S S3 w from ⟨G3,G1,Gn⟩);obtain ⟨o1,o2,o3,o4,o5⟩:=HD.out.off;have Gb:=HD.out.hs.plc.chg Gk o2 o3;obtain ⟨q0,q1,q2⟩:=Gh.out w3 Gb;have z1:w3.frozen? ⟨x.pl,x.po+k * 4+1,none⟩=false:=Gb.frozen _;have z2:w3.frozen? ⟨x.pl,x.po+k * 4+2,none⟩=false:=Gb.frozen _;clear G2 G0 G5 Gk Gn G3 G1 Gx Gp Gb o1 o2 o3 o4 o5 g0;go_wp2;go_ret2;exact ⟨k,S3,Gr.out.1,Gr.out.2,by rw [HV.out];rfl,by rw [G9.out];exact HE.out.1,HE.out.2.1,HE.out.2.2⟩
theorem x3k (h:DS a L T s n K x cs f N m b0 S cur w) (cl:Nat) (hc:cl < 5) (hf:∃ k,k < K/\(cs k).dv=false) (hT:T+200<=1000000000) :
  Calls Tryz.prog 347 #[.pointer (some ⟨x.h,0,none⟩),.int .i64 0,.int .i64 cl] w (z7b a L T s n K x cs f N m b0 S cur w cl):=by
 have HC:=hid (x3l h cl hc hf hT);have c6:w.cell? ⟨x.h,6,none⟩=some (.map none):=h.hs.heap.cell 6;have c3:w.cell? ⟨x.h,3,none⟩=some (.pointer (some ⟨x.gs,0,none⟩)):=h.hs.heap.cell 3;have Ga:∀ W,(Builtin.len_ #[192] 3 #[.map none]).run Tryz.prog W=.ok (.int .i64 0) W:=fun W=>Maps.len_nil Tryz.underlying192 _
 clear h hc hf;unfold z7b at *;go_enter Tryz.func347,Tryz.ntmps347
 go_wp2_with (go_at_call 377;refine HC.out.mono ?_;rintro e w1 ⟨k,S1,h1,h2,rfl,h4,h5,h6⟩;refine stop ?_)
 unfold Stop;have HE:=hid (show _/\_/\_/\_/\_ from ⟨h1,h2,h4,h5,h6⟩);clear h1 h2 h4 h5 h6 HC;generalize ((s+32 * k:Nat):Int)=v at *;go_wp2;go_ret2;obtain ⟨h1,h2,h4,h5,h6⟩:=HE.out;exact ⟨k,S1,h1,h2,rfl,h4,h5,h6⟩
end
end
end Go.Proofs.YtfkjjoglnmeciaaGreatDoor

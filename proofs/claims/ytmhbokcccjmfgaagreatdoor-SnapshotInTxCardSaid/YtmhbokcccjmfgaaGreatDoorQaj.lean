/- part 10 -/
import Derived.Test.YtmhbokcccjmfgaaGreatDoorQai
set_option maxRecDepth 100000
set_option maxHeartbeats 16000000
namespace Go.Proofs.YtmhbokcccjmfgaaGreatDoor
open Go.Lib (hid)
section
open Go.RowKit
theorem y0p{a L T w S cur F}(h:Dev a L T w S cur F) g s n (hB:Blk w g 316 (z1q a s n)) (hs:s<L) (h0:cur (8*s)=0) :
  () 133 #[(g,0)] w fun e w'=>e=.returned (.tuple #[(),()])/\Blw w w':=by
 have HL:=hid (w1t h g s n hB hs h0);have HD:=hid h;have Gd:=hid hB;have c0:w.cell? (g,0)=some (memV a):=hB.cell 0;obtain⟨ls,Gk,Gp,cs,Gn,Ge,Gg⟩:=h;obtain⟨f0,_,_,_,f4⟩:=Ge.facts (j:=0) oM;have Gl:=z1x (some (a.th 0,0));have hq:=z7p (some (a.th 0,0));clear Ge Gg hB;unfold memV at*;go_enter Tryz.func133,Tryz.ntmps133
 go_wp2_with (first
  |(go_at_call 220;refine HL.out.mono ?_;rintro e w1⟨rfl,Gb⟩;have HW:=hid Gb;have d0:w1.cell? (g,0)=some ↑(57,a.th 0,0):=(Gd.out.below Gb Gd.out.lt).cell 0;obtain⟨Gm,Gf,Gi,Gj,Gh,Ga,Gc⟩:=HD.out.below Gb;obtain⟨k0,_,_,_,k4⟩:=Ga.facts (j:=0) oM;clear Gb Ga Gc)
  |go_in)
 go_ret2;exact⟨rfl,HW.out⟩
end
section
open Go.RowKit Go.Maps Go.Shelf
theorem z1s:∀(l:List (Nat×Nat))(cur:Nat->Nat)(k:Nat),(∀e∈l,e.1/8≠k)->wrS cur l k=cur k
 |[],_,_,_=>rfl
 |e::l,cur,k,h=>by
  show wrS (upd cur (e.1/8) e.2) l k=cur k;rw[z1s l _ k (fun x hx=>h x (by simp[hx]))];have:=h e (by simp);simp[upd];omega
theorem z5s:∀(l:List (Nat×Nat))(cur:Nat->Nat),(l.map (·.1)).Nodup->(∀e∈l,e.1%8=0)->∀e∈l,wrS cur l (e.1/8)=e.2
 |[],_,_,_,_,h=>by simp at h
 |x::l,cur,hn,ha,e,he=>by
  show wrS (upd cur (x.1/8) x.2) l (e.1/8)=e.2;simp only[List.map_cons,List.nodup_cons]at hn;rcases List.mem_cons.1 he with rfl|he
  ·rw[z1s l _ _ (fun y hy h=>hn.1 (by
    have h1:=ha y (by simp[hy]);have h2:=ha e (by simp);have:y.1=e.1:=oM;exact List.mem_map.2 ⟨y,hy,this⟩))]
   simp[upd]
  ·exact z5s l _ hn.2 (fun y hy=>ha y (by simp[hy])) e he
theorem z3k:∀(l:List (Nat×Nat))(cur:Nat->Nat),(∀i,cur i<18446744073709551616)->(∀e∈l,e.2<18446744073709551616)->∀i,wrS cur l i<18446744073709551616
 |[],_,h,_,i=>h i
 |x::l,cur,h,hl,i=>z3k l (upd cur (x.1/8) x.2) (fun j=>by
   unfold upd;split
   ·exact hl x (by simp)
   ·exact h j) (fun e he=>hl e (by simp[he])) i
theorem w3l{cur}(h:∀i,cur i<18446744073709551616){v}(hv:v<18446744073709551616) k i:upd cur k v i<18446744073709551616:=by
 unfold upd;split
 ·exact hv
 ·exact h i
theorem y6p{w:World}{b n:Nat}{D:DataW Unit}{R:Value->Option (DataW Unit×List MemPlace)}(h:w.ownsMap Tryz.prog 32 R b n D)(o:Nat):has D (kU o)=true↔o∈z2w D:=by
 obtain⟨es,hD,Ge,_⟩:=h.entries z1g;have Gb:∀p∈es,KeysOf Tryz.prog 32 p.1:=by
  obtain⟨Gd,Ga,_,F,_,Gc⟩:=h;rw[Gc]at hD;injection hD with hD
  subst hD;exact fun p hp=>fit_keys F p (mem_sorted.1 hp)
 subst hD;rw[has_eq,List.any_eq_true];show _↔o∈es.map fun p=>z5x p.1
 rw[List.mem_map];constructor
 ·rintro⟨p,hp,hs⟩
  obtain⟨v,hv⟩:=Gb p hp;obtain⟨a,_,ha,_⟩:=z1h Tryz.underlying32 hv;rw[ha]at hs;refine⟨p,hp,?_⟩;rw[ha];have:(a:Int)=(o:Int):=by simpa[Lit.sameKey,kU] using hs
  simp[z5x];omega
 ·rintro⟨p,hp,rfl⟩
  obtain⟨v,hv⟩:=Gb p hp;obtain⟨a,_,ha,_⟩:=z1h Tryz.underlying32 hv;exact⟨p,hp,by rw[ha];simp[Lit.sameKey,z5x]⟩
section
variable{cur base:Nat->Nat}{D:DataW Unit}{ws:List (Nat×Nat)}
end
end
section
open Go.RowKit Go.Maps
theorem z4q{w B n A l}(h:z0d w B 1 A n (z0g l)){k}(hk:k<n):
  ∃(hl:k<l.length)(b off:Nat),A=some (b,off)/\b<B/\w.cell? (b,off+k)=some (.int .u64 ((l[k]):Int)):=by
 have hl:k<l.length:=by have:=h.1;simp[z0g]at this;omega
 obtain⟨b,off,hA,hb,hc⟩:=h.plain oM oM;exact⟨hl,b,off,hA,hb,hc k _ (by simp[z0g,hl])⟩
theorem y9t l (e:Nat×Nat) x:x∈e.1::l.map (·.1)↔x∈(l++[e]).map (·.1):=by
 rw[List.map_append,List.mem_append,List.mem_cons];constructor
 ·rintro (h|h)
  ·exact .inr (by simp[h])
  ·exact .inl h
 ·rintro (h|h)
  ·exact .inr h
  ·exact .inl (by simpa using h)
def frW(cur:Nat->Nat)(os:List Nat):List (Nat×Nat):=os.map fun o=>(o,cur (o/8))
def entW(z n:Nat):List (Nat×Nat)->List (Nat×Nat)
 |[]=>[]
 |e::l=>(z+64+16*n,e.1)::(z+64+16*n+8,e.2)::entW z (n+1) l
theorem y2i z:∀(l:List (Nat×Nat))(n:Nat)(e:Nat×Nat),entW z n (l++[e])=entW z n l++[(z+64+16*(n+l.length),e.1),(z+64+16*(n+l.length)+8,e.2)]
 |[],n,e=>by simp[entW]
 |x::l,n,e=>by
  have:=y2i z l (n+1) e;simp only[List.cons_append,entW,this,List.length_cons];rw[show n+1+l.length=n+(l.length+1) by omega]
theorem z6t z:∀(l:List (Nat×Nat))(n:Nat),(entW z n l).length=2*l.length
 |[],n=>rfl
 |x::l,n=>by have:=z6t z l (n+1);simp only[entW,List.length_cons,this];omega
theorem z5h z:∀(l:List (Nat×Nat))(n:Nat)(e:Nat×Nat),e∈entW z n l->∃j,j<l.length/\(e.1=z+64+16*(n+j)\/e.1=z+64+16*(n+j)+8)/\∃x∈l,e.2=x.1\/e.2=x.2
 |[],n,e,h=>by simp[entW]at h
 |x::l,n,e,h=>by
  simp only[entW,List.mem_cons]at h;rcases h with rfl|rfl|h
  ·exact⟨0,by simp,.inl (by simp),x,by simp,.inl rfl⟩
  ·exact⟨0,by simp,.inr (by simp),x,by simp,.inr rfl⟩
  ·obtain⟨j,h1,h2,y,hy,h3⟩:=z5h z l (n+1) e h
   refine⟨j+1,by simp;omega,?_,y,by simp[hy],h3⟩;rcases h2 with h2|h2
   ·exact .inl oM
   ·exact .inr oM
def x9d(z n:Nat)(fw:List (Nat×Nat))(p:List Ins):Prop:=(fw=[]/\p=[])\/(fw≠[]/\∃p1 p2,z0y (entW z n fw) p1/\z0y [(z,n+fw.length)] p2/\p=p1++p2)
def y5m(w:World)(P:List Ins->Prop)(e:Ending)(w':World):Prop:=∃A m c p,e=.returned (.tuple #[.slice A m c,()])/\P p/\w'.ownsRow w 225 3 (.slice A m c) m (z0h p)/\Blw w w'
theorem z1m{ws p}(h:z0y ws p):p.length<=2*ws.length+1:=by
 obtain⟨fs,rfl,hf,_⟩:=h;simp;omega
theorem w6x{a L T w S cur F}(h:Dev a L T w S cur F) g s n (hB:Blk w g 258 (z0s a s n)) (hs:s+n<=L) (hn:2<=n) ws (hl:LogU cur s ws) (hwv:∀e∈ws,e.1<18446744073709551616)
  A0 N c0 offs os (hos:(fr (ws.map (·.1)) offs).2=os) (hr:z0d w w.heap.size 1 A0 N (z0g offs)) (ho:∀o∈offs,z3e L s n o) (hc:ws.length+os.length<=4*(n-1)) (hN:N<=1000) (h12:2*os.length<=198) :
  () 266 #[(g,0),.slice A0 N c0] w (y5m w (x9d (64*s) ws.length (frW cur os))):=by
 obtain⟨i0,GC,GH,GI,GJ⟩:=info_parts z1l;have hL:L<=4096:=by obtain⟨ls,DW,Fk,cs,Fj,D5,Fb⟩:=h;exact D5.hL
 have HD:=hid h;have Gb:=hid hB;have G8:=hid hr;have Dn:offs.length=N:=by have:=hr.1;simp[z0g]at this;exact this
 have D0:=hid Dn;have f0:w.cell? (g,0)=some (memV a):=hB.cell 0;have hq:=z7p (some (a.th 0,0));have DX:=z1x (some (a.th 0,0));have DY:=z3u (some (a.th 0,0));have G6:Hid (∀k (hk:k<offs.length),z3e L s n (offs[k])):=fun k hk=>ho _ (List.getElem_mem hk)
 have Dm:Hid (∀k (hk:k<ws.length),(ws[k]).1<18446744073709551616):=fun k hk=>hwv _ (List.getElem_mem hk)
 have GN:Hid (∀k (hk:k<offs.length) W,Blw w W->() 272 #[(g,0),.int .u64 ((offs[k]):Int)] W fun e w'=>e=.returned true/\Blw W w'):=fun k hk W hW =>
  y1x (h.below hW) g s n (hB.below hW hB.lt) hs _ (ho _ (List.getElem_mem hk))
 have GV:Hid (∀W,Blw w W->() 271 #[(g,0)] W (w7u W ws)):=fun W hW=>y2j (h.below hW) g s n (hB.below hW hB.lt) hs hn ws hl oM
 have GY:Hid (∀k (hk:k<offs.length) W,Blw w W->() 39 #[(a.th 0,0),.int .u64 ((offs[k]):Int)] W fun e w'=>e=.returned (cur (offs[k]/8))/\W=w'):=fun k hk W hW=>by
  have:=G6.out k hk;exact z2m h (offs[k]) _ this.al this.lt rfl W hW
 have Dy:Hid (∀(k:Nat)(W:World),k<=1000000->Blw w W->() 313 #[(g,0),[k]] W fun e w'=>e=.returned (64*s+64+16*k)/\W=w'):=fun k W hk hW =>
  y0i (memV a) g (64*s) k [n] W (Gb.out.below hW Gb.out.lt) oM hk
 have D2:Hid (∀(k:Nat)(W:World),k<=1000000->Blw w W->() 223 #[(g,0),[k]] W (z2e W (z0y [(64*s,k)]))):=fun k W hk hW =>
  z6l a s n g k W (Gb.out.below hW Gb.out.lt) oM hk
 have Fa:∀W,(Instr.makeMap 419 none).run Tryz.prog W=.ok (.map (some W.heap.size)) (W.alloc (.map #[] 0)):=fun _=>rfl
 have D1:=hid hos;have Dz:Hid (∀k,(fr (ws.map (·.1)) (offs.take k)).2.length<=k):=fun k=>Nat.le_trans (w8d (offs.take k) (ws.map (·.1),[])) (by simp;omega)
 have Fh:ws.length<=16384:=oM;have DO:64*s<=1000000:=oM;have HC:=hid hc;have Dw:=hid h12;have DR:Hid (∀o∈os,o<64*L):=fun o h=>by
  rw[<- hos]at h;rcases w0y offs _ o h with h|h
  ·simp at h
  ·exact(ho o h).lt
 have e8:decide (4*((n:Int)-1)<(ws.length:Int)+(os.length:Int))=false:=dF;have D6:(2:Int)<=(n:Int):=oM;have D7:(n:Int)<=4096:=oM;have GO:Hid (Blw w w):=Below.refl _ _;clear h hB hr ho hc h12 hl hwv hs hn Dn hos;unfold memV at*;go_enter Tryz.func266,Tryz.ntmps266
 go_wp2;go_loopw [26] (fun i wr=>∃(k:Nat),k<=N/\i=↑[k]/\Hid (Blw w wr)) (fun i _=>N-(RowKit.intOf i).toNat)
 case atStart=>exact⟨0,Nat.zero_le _,rfl,GO⟩
 case round =>
  clear GO;obtain⟨k,hk,rfl,H⟩:=hrel;by_cases hlt:k<N
  ·obtain⟨DB,b,GM,hA,GB,q0⟩:=z4q (G8.out.below H.out) hlt
   subst hA;have GK:(0:Int)<=(k:Int):=oM;have GL:(k:Int)<(N:Int):=oM;have HA:=hid (GN.out k DB wr H.out);generalize offs[k]=o at*;go_wp2_with fail
   refine HA.out.mono ?_;rintro e1 w2⟨rfl,Gj⟩;have GP:=hid (H.out.trans (Gj.mono H.out.size));clear Gj HA H;go_wp2;go_roundw
   case rel =>
    first
     |exact⟨k+1,oM,by go_num,GP⟩
     |(
       repeat apply Exists.intro
       refine⟨?_,rfl⟩;exact⟨k+1,oM,by go_num,GP⟩)
   case measure=>simp[RowKit.intOf];omega
  ·have D9:k=N:=oM
   subst D9;clear GN;go_wp2_with fail
   refine(GV.out wr H.out).mono ?_;rintro e1 w1⟨A1,m1,c1,rfl,DE,Gz,Gu⟩;have Gl:=hid (H.out.trans (Gu.mono H.out.size));have G7:=hid (z0d.of_own Gz);have DF:m1<=ws.length:=oM;have DG:ws.length<=m1:=oM;have Di:Hid (OSet (w1.alloc (.map #[] 0)) w1.heap.size 0 ((ws.take 0).map (·.1))):=OSet.new w1;have GT:Hid (Chg (fun j=>j=w1.heap.size) w1 (w1.alloc (.map #[] 0))):=(Chg.refl _ _).alloc _;clear DE Gz Gu H GV;go_wp2;go_loopw [46] (fun i wr=>∃(k:Nat),k<=m1/\i=↑[k]/\Hid (OSet wr w1.heap.size k ((ws.take k).map (·.1)))/\Hid (Chg (fun j=>j=w1.heap.size) w1 wr)) (fun i _=>m1-(RowKit.intOf i).toNat)
   case atStart=>exact⟨0,Nat.zero_le _,rfl,Di,GT⟩
   case round =>
    clear Di GT;obtain⟨q,Fd,rfl,HS,Gn⟩:=hrel;by_cases hlt2:q<m1
    ·have Du:q<ws.length:=oM
     have G3:=Gn.out.reads G7.out (nL _) (fun ad had e=>by
      obtain⟨DT,hA,hb,_⟩:=G7.out.2 oM;rw[hA]at had;cases had;omega)
     obtain⟨_,b,GM,hA,GB,q0,q1⟩:=z3a G3 hlt2;subst hA;have GK:(0:Int)<=(q:Int):=oM;have GL:(q:Int)<(m1:Int):=oM;have Gt:=hid (x0m ws q Du);obtain⟨w3,GG,hos,Gk⟩:=(HS.out.alloc (.cells #[.int .u64 ((ws[q]).1:Int),.int .u64 ((ws[q]).2:Int)] 117)).add (by unfold maxLen;omega) (Dm.out q Du);have GU:=hid ((Gn.out.alloc (.cells #[.int .u64 ((ws[q]).1:Int),.int .u64 ((ws[q]).2:Int)] 117)).grown Gk (fun g hg => .inl (by cases hg;rfl)));have Gi:Hid (OSet w3 w1.heap.size (q+1) ((ws.take (q+1)).map (·.1))):=hid (by rw[Gt.out];exact hos.congr (y9t _ _));generalize ws[q]=e at*;clear hos Gk G3 HS Gn;go_wp2;go_roundw
     case rel =>
      first
       |exact⟨q+1,oM,by go_num,Gi,GU⟩
       |(
         repeat apply Exists.intro
         refine⟨?_,rfl⟩;exact⟨q+1,oM,by go_num,Gi,GU⟩)
     case measure=>simp[RowKit.intOf];omega
    ·have DL:q=m1:=oM
     subst DL;have Dj:Hid (OSet wr w1.heap.size (q+0) (fr (ws.map (·.1)) (offs.take 0)).1):=hid (by
      have h:=HS.out;rw[List.take_of_length_le oM]at h;exact h)
     have Gg:=hid (Gl.out.trans (Gn.out.toBelow Gl.out.size (fun j hj=>by rw[hj];exact Gl.out.size)));have Dc:Hid (wr.ownsRow w.heap.size 117 2 ((),()) 0 (z0a (frW cur (fr (ws.map (·.1)) (offs.take 0)).2))):=World.ownsRow_nil _ _ _ _;have GZ:Hid (0=(fr (ws.map (·.1)) (offs.take 0)).2.length):=hid rfl;have GQ:=hid Gl.out.size;clear HS Gn G7 Dm Gl;go_wp2;go_loopw [13,56] (fun l i wr=>∃(j:Nat)(A:Option Addr)(m c:Nat),j<=k/\i=↑[j]/\l=.slice A m c/\Hid (m=(fr (ws.map (·.1)) (offs.take j)).2.length)/\Hid (wr.ownsRow w.heap.size 117 2 (.slice A m c) m (z0a (frW cur (fr (ws.map (·.1)) (offs.take j)).2)))/\Hid (OSet wr w1.heap.size (q+j) (fr (ws.map (·.1)) (offs.take j)).1)/\Hid (Blw w wr)) (fun _ i _=>k-(RowKit.intOf i).toNat)
     case atStart=>exact⟨0,_,_,_,Nat.zero_le _,rfl,rfl,GZ,Dc,Dj,Gg⟩
     case round =>
      clear GZ Dc Dj Gg;obtain⟨j,A,m,c,hj,rfl,rfl,HM,HO,HS,H⟩:=hrel;by_cases hlt3:j<k
      ·obtain⟨GD,b,GM,hA,GB,q0⟩:=z4q (G8.out.below H.out) hlt3
       subst hA;have GK:(0:Int)<=(j:Int):=oM;have GL:(j:Int)<(k:Int):=oM;have Gt:=hid (x0m offs j GD);have G4:=hid (w9z (ws.map (·.1)) (offs.take j) (offs[j]));have Dr:offs[j]<18446744073709551616:=by have:=(G6.out j GD).lt;omega
       have Dq:=HS.out.look Dr;have GX:=hid (GY.out j GD);have DZ:m<=j:=by have:=HM.out;have:=Dz.out j;omega
       rw[<- Gt.out]at G4;generalize offs[j]=o at*;generalize hst:fr (ws.map (·.1)) (offs.take j)=st at*;by_cases hmem:o∈st.1
       ·rw[decide_eq_true hmem]at Dq
        have Ga:fr (ws.map (·.1)) (offs.take (j+1))=st:=by rw[G4.out];exact if_pos hmem
        have Gq:Hid (m=(fr (ws.map (·.1)) (offs.take (j+1))).2.length):=hid (by rw[Ga];exact HM.out);have Gc:Hid (wr.ownsRow w.heap.size 117 2 (.slice A m c) m (z0a (frW cur (fr (ws.map (·.1)) (offs.take (j+1))).2))):=hid (by rw[Ga];exact HO.out);have Gs:Hid (OSet wr w1.heap.size (q+(j+1)) (fr (ws.map (·.1)) (offs.take (j+1))).1):=hid (by rw[Ga];exact HS.out.mono oM);clear hst Ga HM HO HS;go_wp2;go_roundw
        case rel =>
         first
          |exact⟨j+1,_,_,_,oM,by go_num,rfl,Gq,Gc,Gs,H⟩
          |(
            repeat apply Exists.intro
            refine⟨?_,rfl⟩;exact⟨j+1,_,_,_,oM,by go_num,rfl,Gq,Gc,Gs,H⟩)
        case measure=>simp[RowKit.intOf];omega
       ·rw[decide_eq_false hmem]at Dq
        have Ga:fr (ws.map (·.1)) (offs.take (j+1))=(o::st.1,st.2++[o]):=by rw[G4.out];exact if_neg hmem
        obtain⟨w3,GG,hos,Gk⟩:=HS.out.add (by unfold maxLen;omega) Dr;have Gf:=hid (H.out.grown Gk H.out.size (fun g hg=>by cases hg;exact GQ.out));have Gr:=hid (HO.out.kept Gk (.inr (fun e=>HS.out.ne_own HO.out e.symm)));have Gi:=hid hos;have d0:w3.cell? (g,0)=some ↑(57,a.th 0,0):=(Gb.out.below Gf.out Gb.out.lt).cell 0;have GW:=hid (GX.out w3 Gf.out);clear hos Gk HO HS H GX;go_wp2_with fail
        refine GW.out.mono ?_;rintro e1 w4⟨rfl,rfl⟩;go_wp2_with (at_builtin;refine stop ?_)
        unfold Stop;refine z0m _ (.tmp 66) (.tmp 75) 118 rfl rfl w.heap.size 117 i0 _ 2 16 Tryz.underlying118 GC GH GI GJ rfl oM (.slice A m c) m (z0a (frW cur st.2)) rfl (Gr.out.alloc _) (w3.heap.size+1) (some (w3,0)) 1 1 [o,(cur (o/8))] rfl (z0j _ _ rfl _ 1 2 117 _ rfl rfl) (z2k _ _) (by unfold maxLen;omega) oM (by have:=Gf.out.size;simp;omega) ?_;intro A3 n3 c3 w8 Gw Ge hg3 Gd;have Gq:Hid (n3=(fr (ws.map (·.1)) (offs.take (j+1))).2.length):=hid (by rw[Ga];have:=HM.out;simp;omega);have Gc:Hid (w8.ownsRow w.heap.size 117 2 (.slice A3 n3 c3) n3 (z0a (frW cur (fr (ws.map (·.1)) (offs.take (j+1))).2))):=hid (by rw[Ga];show w8.ownsRow _ _ _ _ _ (z0a (frW cur (st.2++[o])));rw[show frW cur (st.2++[o])=frW cur st.2++[(o,cur (o/8))] by simp[frW],z1o];exact Ge);have Gs:Hid (OSet w8 w1.heap.size (q+(j+1)) (fr (ws.map (·.1)) (offs.take (j+1))).1):=hid (by rw[Ga];exact((Gi.out.alloc _).kept hg3 (Gi.out.ne_own Gr.out)).mono oM);have Gh:=hid ((Gf.out.alloc Gf.out.size _).trans Gd);clear Gw Ge hg3 Gd hst Ga Gi Gr Gf GW HM;go_wp2;go_roundw
        case rel =>
         first
          |exact⟨j+1,_,_,_,oM,by go_num,rfl,Gq,Gc,Gs,Gh⟩
          |(
            repeat apply Exists.intro
            refine⟨?_,rfl⟩;exact⟨j+1,_,_,_,oM,by go_num,rfl,Gq,Gc,Gs,Gh⟩)
        case measure=>simp[RowKit.intOf];omega
      ·have D8:j=k:=oM
       subst D8;have Dv:offs.take j=offs:=List.take_of_length_le (by have:=D0.out;omega);rw[Dv,D1.out]at HM HO;clear HS GY G6 G8 Dv GQ;have DH:m=os.length:=HM.out;subst DH;have DK:q=ws.length:=oM;subst DK;have GA:=Gb.out.below H.out Gb.out.lt;have d0:wr.cell? (g,0)=some ↑(57,a.th 0,0):=GA.cell 0;have d2:wr.cell? (g,2)=some ↑[n]:=GA.cell 2;obtain⟨Fi,D4,DQ,DU,DP,Gv,GE⟩:=HD.out.below H.out;obtain⟨k0,_,_,_,k4⟩:=Gv.facts (j:=0) oM;clear Gv GE GA HD;have Fc:os.length<=99:=by have:=Dw.out;omega
       rcases Nat.eq_zero_or_pos os.length with h0|h0
       ·have hos:os=[]:=List.eq_nil_of_length_eq_zero h0
        have DV:decide (4*((n:Int)-1)<(ws.length:Int))=false:=decide_eq_false (by have:=HC.out;omega);subst hos;go_wp2;go_ret2;exact⟨_,_,_,[],rfl,.inl ⟨rfl,rfl⟩,World.ownsRow_nil _ _ _ _,H.out⟩
       ·have e9:((os.length:Int)==0)=false:=by rw[beq_eq_false_iff_ne];omega
        rename World=>wz
        have G3:=hid (z0d.of_own HO.out);have Db:Hid (wz.ownsRow wz.heap.size 117 2 ((),()) 0 (z0a (entW (64*s) ws.length ((frW cur os).take 0)))):=World.ownsRow_nil _ _ _ _;have Gm:Hid (Blw wz wz):=Below.refl _ _;have G2:(frW cur os).length=os.length:=by simp[frW]
        clear HO;go_wp2;go_loopw [18,100] (fun l i wr=>∃(t:Nat)(A2:Option Addr)(m2 c2:Nat),t<=os.length/\i=↑[t]/\l=.slice A2 m2 c2/\m2<=2*t/\2*t<=m2/\Hid (wr.ownsRow wz.heap.size 117 2 (.slice A2 m2 c2) m2 (z0a (entW (64*s) ws.length ((frW cur os).take t))))/\Hid (Blw wz wr)) (fun _ i _=>os.length-(RowKit.intOf i).toNat)
        case atStart=>exact⟨0,_,_,_,Nat.zero_le _,rfl,rfl,nL _,nL _,Db,Gm⟩
        case round =>
         clear Db Gm;obtain⟨t,A2,m2,c2,ht,rfl,rfl,Fe,Ff,HO,HQ⟩:=hrel;by_cases hlt4:t<os.length
         ·obtain⟨DN,b,GM,hA,GB,q0,q1⟩:=z3a (G3.out.below HQ.out) hlt4
          subst hA;have GK:(0:Int)<=(t:Int):=oM;have GL:(t:Int)<(os.length:Int):=oM;have Gt:=hid (x0m (frW cur os) t DN);have Gp:=hid (y2i (64*s) ((frW cur os).take t) ws.length ((frW cur os)[t]));rw[<- Gt.out,show((frW cur os).take t).length=t by simp;omega]at Gp;generalize (frW cur os)[t]=e at*;have Do:Blw w (wr.alloc (.cells #[e.1,e.2] 117)):=(H.out.trans (HQ.out.mono H.out.size)).alloc (Nat.le_trans H.out.size HQ.out.size) _;have HE:=hid (Dy.out (ws.length+t) _ oM Do);have e7:((ws.length+t:Nat):Int)=(ws.length:Int)+(t:Int):=oM;rw[e7]at HE;have u1:IntKind.u64.wrap (((64*s+64+16*(ws.length+t):Nat):Int)+8)=((64*s+64+16*(ws.length+t)+8:Nat):Int):=by rw[IntKind.wrap_u64];omega
          have GR:=hid (Blk.new wr 117 #[e.1,e.2]);have De:=hid (HO.out.alloc (.cells #[e.1,e.2] 117));have G1:=hid (HQ.out.alloc HQ.out.size (.cells #[e.1,e.2] 117));have Da:Hid (∀g',(Value.slice A2 m2 c2).ownBlock=some g'->g'<wr.heap.size):=fun g' hg'=>(HO.out.lt g' hg').2
          clear Do HO HQ;generalize 64*s+64+16*(ws.length+t)+8=y2 at*;generalize 64*s+64+16*(ws.length+t)=y at*;go_wp2_with fail
          refine HE.out.mono ?_;rintro e1 w4⟨rfl,rfl⟩;go_wp2_with (at_builtin;refine stop ?_)
          unfold Stop;refine z0m _ (.tmp 111) (.tmp 116) 118 rfl rfl wz.heap.size 117 i0 _ 2 16 Tryz.underlying118 GC GH GI GJ rfl oM (.slice A2 m2 c2) m2 (z0a (entW (64*s) ws.length ((frW cur os).take t))) rfl (De.out.alloc _) (wr.heap.size+1+1) (some (wr.heap.size+1,0)) 1 1 [y,e.1] rfl (z0j _ _ (by simp) _ 1 2 117 _ rfl rfl) (z2k _ _) (by unfold maxLen;omega) oM (by have:=G1.out.size;simp;simp at this;omega) ?_;intro A3 n3 c3 w5 Gw Ge hg3 Gd;have Dp:=(GR.out.alloc (.cells #[y,e.1] 117)).grown hg3 (fun e=>by have:=Da.out _ e.symm;omega);have d5:w5.cell? (wr,1)=some ↑e.2:=Dp.cell 1;have Gc:=hid Ge;have G0:=hid ((G1.out.alloc G1.out.size _).trans Gd);have DI:n3<=2*t+1:=oM;have DJ:2*t+1<=n3:=oM;clear Gw Ge hg3 Gd Dp GR De G1 Da HE;go_wp2_with (at_builtin;refine stop ?_)
          unfold Stop;refine z0m _ (.tmp 118) (.tmp 124) 118 rfl rfl wz.heap.size 117 i0 _ 2 16 Tryz.underlying118 GC GH GI GJ rfl oM (.slice A3 n3 c3) n3 _ rfl (Gc.out.alloc _) (w5.heap.size+1) (some (w5,0)) 1 1 [y2,e.2] rfl (z0j _ _ rfl _ 1 2 117 _ rfl rfl) (z2k _ _) (by unfold maxLen;omega) oM (by have:=G0.out.size;simp;omega) ?_;intro A4 n4 c4 w6 hn4 ho4 hg4 hb4;have Dd:Hid (w6.ownsRow wz.heap.size 117 2 (.slice A4 n4 c4) n4 (z0a (entW (64*s) ws.length ((frW cur os).take (t+1))))):=hid (by rw[Gp.out,show ∀l:List (Nat×Nat),l++[(y,e.1),(y2,e.2)]=(l++[(y,e.1)])++[(y2,e.2)]from fun l=>by simp,z1o,z1o];exact ho4);have Dh:=hid ((G0.out.alloc G0.out.size _).trans hb4);have Gx:n4<=2*(t+1):=oM;have Gy:2*(t+1)<=n4:=oM;clear hn4 ho4 hg4 hb4 Gc G0;go_wp2;go_roundw
          case rel =>
           first
            |exact⟨t+1,_,_,_,oM,by go_num,rfl,Gx,Gy,Dd,Dh⟩
            |(
              repeat apply Exists.intro
              refine⟨?_,rfl⟩;exact⟨t+1,_,_,_,oM,by go_num,rfl,Gx,Gy,Dd,Dh⟩)
          case measure=>simp[RowKit.intOf];omega
         ·have Fg:t=os.length:=oM
          have DM:(frW cur os).take t=frW cur os:=List.take_of_length_le oM;rw[DM]at HO;have GS:=hid (H.out.trans (HQ.out.mono H.out.size));have Dk:=hid (z1n A2 m2 c2 _ wr (z0d.of_own HO.out) oM oM (fun e he=>by
           obtain⟨j2,h1,h2,_⟩:=z5h _ _ _ _ he;rw[G2]at h1;omega))
          have e7:((ws.length+os.length:Nat):Int)=(ws.length:Int)+(os.length:Int):=oM;clear HO HQ;go_wp2_with fail
          refine Dk.out.mono ?_;rintro e1 w4⟨B1,n1,d1,p1,rfl,Ds,Gz,Gu⟩;have Df:=hid Ds;have G5:=hid Gz;have Gg:=hid (GS.out.trans (Gu.mono GS.out.size));have G9:=hid (D2.out (ws.length+os.length) w4 oM Gg.out);rw[e7]at G9;clear Ds Gz Gu Dk;go_wp2_with fail
          refine G9.out.mono ?_;rintro e1 w5⟨B2,n2,D3,p2,rfl,Dt,GF,Gj⟩;have Dg:=hid Dt;have Gh:=hid (Gg.out.trans (Gj.mono Gg.out.size));have DC:n1<=400:=by
           have h1:=G5.out.1;have h2:=z1m Df.out;rw[z0o]at h1;rw[z6t]at h2;omega
          have DD:n2<=400:=by
           have h1:=GF.1;have h2:=z1m Dg.out;rw[z0o]at h1;simp at h2;omega
          have Dl:=hid (z5p B1 B2 n1 d1 n2 D3 p1 p2 w5 (z0d.of_own (z0r G5.out Gj)) (z0d.of_own GF) DC DD);clear Dt GF Gj G9 G5;go_wp2_with fail
          refine Dl.out.mono ?_;rintro e1 w6⟨B3,n3,d3,rfl,Gw,Ge,Gd⟩;have Gr:=hid Ge;have Dx:=hid (Gh.out.trans (Gd.mono Gh.out.size));clear Gw Ge Gd Dl;go_wp2;go_ret2;refine⟨_,_,_,_,rfl,.inr ⟨?_,p1,p2,Df.out,?_,rfl⟩,z2u Gr.out Gh.out.size,Dx.out⟩
          ·intro h
           rw[h]at G2;simp at G2;omega
          ·rw[G2]
           exact Dg.out
end
section
open Go.RowKit Go.Maps Go.Shelf
theorem z7q{a L T w S cur F}(h:Dev a L T w S cur F){j}(hj:j<8):
  () 76 #[(a.th j,0)] w fun e w'=>e=.returned ()/\w=w':=by
 obtain⟨ls,Gc,Ge,cs,Gd,Ga,Gb⟩:=h;obtain⟨f0,_,_,_,f4⟩:=Ga.facts hj;clear Ga Gb;go_enter Tryz.func76,Tryz.ntmps76
 go_wp2;go_ret;exact⟨rfl,rfl⟩
theorem y7g{a L T w S cur F}(h:Dev a L T w S cur F) g s n (hB:Blk w g 258 (z0s a s n)) (hs:s<L) (hn:2<=n) (hn2:n<=4096) (h0:cur (8*s)=0) :
  () 167 #[(g,0)] w fun e w'=>e=.returned ()/\Blw w w':=by
 have HP:=hid (z5z h g s n hB hs hn hn2 h0);clear h hB;go_enter Tryz.func167,Tryz.ntmps167
 go_wp2_with fail
 refine HP.out.mono ?_;rintro e w1⟨rfl,h1⟩;have H1:=hid h1;clear h1;go_wp2;go_ret;exact⟨rfl,H1.out⟩
theorem z0x.of_below{a L T T' w w' S cur v}(h:Dev a L T w S cur 0)(hT:T<=T')(hT':T'<=1000000000)(hb:Blw w w'):z0x a L T' w S cur 0 v (.returned v) w':=⟨rfl,S,(h.below hb).more hT hT',Chg.of_below hb,Grew.refl _ _⟩
theorem v3t(W:World)(b:Nat)(ho:W.ownsMap Tryz.prog 32 oneR b 0 (.map [])):
  () 91 #[.func (.func 213) #[] #[(W,())]] (W.alloc (.cells #[.map (some b)] 142)) fun e w'=>(∃A c,e=.returned (.slice A 0 c))/\Below (W.alloc (.cells #[.map (some b)] 142)).heap.size (W.alloc (.cells #[.map (some b)] 142)) w':=by
 refine(z7a _ _ (enters_of Tryz.func213 (by kernel_rfl) rfl) (z2w (.map []:DataW Unit)) (Maps.size (.map []:DataW Unit)) (by simp[Maps.size]) _ (x2t 9 W.heap.size b 0 _ _ (by simp) ((Blk.new W 142 #[.map (some b)]).cell 0) (ho.alloc _) oM)).mono ?_;rintro e w'⟨A,m,c,ys,rfl,hp,hm,ho,hb⟩;have hy:ys=[]:=by have:=hp.length_eq;simp[z2w]at this;exact this
 subst hy;subst hm;exact⟨⟨A,c,rfl⟩,hb⟩
theorem z5q{w:World}{b n:Nat}{D:DataW Unit}{R:Value->Option (DataW Unit×List MemPlace)}(h:w.ownsMap Tryz.prog 32 R b n D):(z2w D).Nodup:=by
 obtain⟨es,hD,Gd,_⟩:=h.entries z1g;have Gb:∀p∈es,KeysOf Tryz.prog 32 p.1:=by
  obtain⟨Ge,Ga,_,F,_,Gc⟩:=h;rw[Gc]at hD;injection hD with hD
  subst hD;exact fun p hp=>fit_keys F p (mem_sorted.1 hp)
 subst hD;show(es.map fun p=>z5x p.1).Nodup;refine List.pairwise_map.2 (Gd.imp_of_mem fun {p q} hp' hq' hne e=>hne ?_);obtain⟨v,hv⟩:=Gb p hp';obtain⟨u,hu⟩:=Gb q hq';obtain⟨x,_,hx,_⟩:=z1h Tryz.underlying32 hv;obtain⟨y,_,hy,_⟩:=z1h Tryz.underlying32 hu;rw[hx,hy]at e⊢;have:x=y:=by simpa[z5x,kU] using e
 rw[this]
theorem z7c{w:World}{b n:Nat}{D:DataW Unit}{R:Value->Option (DataW Unit×List MemPlace)}(h:w.ownsMap Tryz.prog 32 R b n D):(z2w D).length=Maps.size D:=by
 obtain⟨es,hD,_,_⟩:=h.entries z1g;rw[hD];simp[z2w,Maps.size]
end
section
open Go.RowKit
theorem x5m{a L T w S cur F}(h:Dev a L T w S cur F):
  () 264 #[(a.th 0,0)] w fun e w'=>e=.returned (.int .u64 ((L:Int)*64))/\w'=w:=by
 obtain⟨ls,Gc,Ge,cs,Gd,Ga,Gb⟩:=h;have hL:=Ga.hL;obtain⟨f0,f2,_,_,f4⟩:=Ga.facts (j:=0) oM;have u1:IntKind.u64.wrap ((L:Int)*64)=(L:Int)*64:=by rw[IntKind.wrap_u64];omega
 clear Ga Gb;go_enter Tryz.func264,Tryz.ntmps264
 go_wp2_with go_in
 go_ret;exact⟨rfl,rfl⟩
theorem y8i{a L T w S cur F}(h:Dev a L T w S cur F) g s n (hB:Blk w g 316 (z1q a s n)) (hs:s+n<=L) o (ho:z3e L s n o) :
  () 256 #[(g,0),o] w fun e w'=>e=.returned true/\Blw w w':=by
 have c0:w.cell? (g,0)=some (memV a):=hB.cell 0;have c1:w.cell? (g,1)=some ↑(64*s:Nat):=hB.cell 1;have c2:w.cell? (g,2)=some ↑(64*n:Nat):=hB.cell 2;have Gg:=z6w (some (a.th 0,0));have Gb:Hid (∀n,() 264 #[(a.th 0,0)] (w.drewN n) fun e w'=>e=.returned (.int .u64 ((L:Int)*64))/\w'=w.drewN n):=hid (fun n=>x5m (h.below (z7n (Below.refl _ w) n)));have hL:L<=4096:=by obtain⟨ls,Gf,Gj,cs,Gi,Gd,Gh⟩:=h;exact Gd.hL
 obtain⟨o1,o2,o3⟩:=ho;have Ga:Hid (∀n,Blw w (w.drewN n)):=hid (fun n=>z7n (Below.refl _ w) n);have e1:((o:Int)%8==0)=true:=by rw[beq_iff_eq];omega
 have Ge:(o:Int)%8=0:=oM;have u1:IntKind.u64.wrap ((L:Int)*64)=(L:Int)*64:=by rw[IntKind.wrap_u64];omega
 have e2:decide ((o:Int)<(L:Int)*64)=true:=dT;clear h hB;unfold memV at*;by_cases hlt:o<64*s
 ·have e3:decide ((o:Int)<((64*s:Nat):Int))=true:=dT
  have Gc:decide (o<64*s)=true:=decide_eq_true hlt;generalize 64*s=z at*;generalize 64*n=y at*;go_enter Tryz.func256,Tryz.ntmps256
  go_wp2;go_quiet ((go_at_call 264;exact Calls.quiet_of_same (Gb.out _)))
  go_wp2;go_ret;exact⟨rfl,Ga.out _⟩
 ·have e3:decide ((o:Int)<((64*s:Nat):Int))=false:=dF
  have Gc:decide (o<64*s)=false:=decide_eq_false hlt;have u4:IntKind.u64.wrap ((o:Int)-((64*s:Nat):Int))=(o:Int)-((64*s:Nat):Int):=by rw[IntKind.wrap_u64];omega
  have e4:decide (((64*n:Nat):Int)<=(o:Int)-((64*s:Nat):Int))=true:=dT;generalize 64*s=z at*;generalize 64*n=y at*;go_enter Tryz.func256,Tryz.ntmps256
  go_wp2;go_quiet ((go_at_call 264;exact Calls.quiet_of_same (Gb.out _)))
  go_wp2;go_ret;exact⟨rfl,Ga.out _⟩
section
variable{a:DA}{L T:Nat}{w:World}{S:Fp}{cur:Nat->Nat}{F:Nat}
theorem z9k(h:Dev a L T w S cur F)(ht:Tab w) c g (hc:c+32<=L) (hg0:0<g) (hg:g<65536) (hv:cur (8*c)=z4n g) :
  () 229 #[memV a,[c]] w fun e w'=>e=.returned (.tuple #[.agg #[.int .i64 (-1),.int .i64 (-1),#[g]],()])/\Blw w w' :=
 y9q h c hc (z4n g) (-1) (-1) (g:Int) hv (fun W hW=>y9h g hg0 hg W (ht.below hW))
theorem x5g(h:Dev a L T w S cur F)(ht:Tab w)(hp:Pay w) c cl g (hc:c+32<=L) (hcl:cl<5) (hg0:0<g) (hg:g<65536) (hv:cur (8*c)=hdrW cl g) :
  () 229 #[memV a,[c]] w fun e w'=>e=.returned (.tuple #[.agg #[[cl],(),#[g]],()])/\Blw w w' :=
 y9q h c hc (hdrW cl g) (cl:Int) 0 (g:Int) hv (fun W hW=>y4o cl g hcl hg0 hg W (ht.below hW) (hp.below hW))
end
def w0g:Value := .agg #[.nilIface,(),(),(),.int .u16 0]
section
variable{a:DA}{L T:Nat}{w:World}{S:Fp}{cur:Nat->Nat}{F:Nat}
theorem y8p(h:Dev a L T w S cur F)(ht:Tab w) c g (hc:c+32<=L) (hg0:0<g) (hg:g<65536) (hv:cur (8*c)=z4n g) :
  () 151 #[memV a,[c]] w fun e w'=>e=.returned (.tuple #[w0g,.int .i64 8])/\Blw w w':=by
 have Gb:Hid (Blw w (w.alloc (.cells #[.nilIface,(),(),(),.int .u16 0] 251))):=(Below.refl _ _).alloc (nL _) _;have HL:=hid (z9k (h.below Gb.out) (ht.below Gb.out) c g hc hg0 hg hv);clear h ht hv;unfold w0g;unfold memV at*;have Gd:=hid (Blk.new w 251 #[.nilIface,(),(),(),.int .u16 0]);go_enter Tryz.func151,Tryz.ntmps151
 go_wp2_with fail
 refine HL.out.mono ?_;rintro e w1⟨rfl,Gc⟩;have Gf:=hid (Gb.out.trans (Gc.mono Gb.out.size));have Ga:=Gd.out.below Gc Gd.out.lt;have Ge:=Ga.lt;have c0:w1.cell? (w,0)=some (.nilIface):=Ga.cell 0;have z0:w1.frozen? (w,0)=false:=Ga.frozen 0;have c1:w1.cell? (w,1)=some ↑():=Ga.cell 1;have z1:w1.frozen? (w,1)=false:=Ga.frozen 1;have c2:w1.cell? (w,2)=some ↑():=Ga.cell 2;have z2:w1.frozen? (w,2)=false:=Ga.frozen 2;have c3:w1.cell? (w,3)=some ↑():=Ga.cell 3;have z3:w1.frozen? (w,3)=false:=Ga.frozen 3;have c4:w1.cell? (w,4)=some (.int .u16 0):=Ga.cell 4;have z4:w1.frozen? (w,4)=false:=Ga.frozen 4;have Gg:w.heap.size<w1.heap.size:=Ge;clear Gc Ga HL;go_wp2;have Gh:((w,0):Addr)≠(w,1):=by simp
 have Gi:((w,0):Addr)≠(w,2):=by simp
 have Gj:((w,0):Addr)≠(w,3):=by simp
 have Gk:((w,0):Addr)≠(w,4):=by simp
 have Gl:((w,1):Addr)≠(w,2):=by simp
 have Gm:((w,1):Addr)≠(w,3):=by simp
 have Gn:((w,1):Addr)≠(w,4):=by simp
 have Gp:((w,2):Addr)≠(w,3):=by simp
 have Gq:((w,2):Addr)≠(w,4):=by simp
 have Gr:((w,3):Addr)≠(w,4):=by simp
 refine bodyPost_ret (v := .tuple #[.agg #[.nilIface,(),(),(),.int .u16 0],.int .i64 8]) (by simp[results,Tryz.results151,go_sem,c0,c1,c2,c3,c4,Ge]) rfl ⟨rfl,?_⟩;have h1:=(((((Gf.out.setCell (p:=⟨w.heap.size,0,none⟩) (nL _) (.nilIface)).setCell (p:=⟨w.heap.size,1,none⟩) (nL _) ()).setCell (p:=⟨w.heap.size,2,none⟩) (nL _) ()).setCell (p:=⟨w.heap.size,3,none⟩) (nL _) ()).setCell (p:=⟨w.heap.size,4,none⟩) (nL _) (.int .u16 0))
 exact h1.alloc h1.size _
theorem z4u(h:Dev a L T w S cur F)(ht:Tab w)(hp:Pay w) c cl g (hc:c+32<=L) (hcl:cl<5) (hg0:0<g) (hg:g<65536) (hv:cur (8*c)=hdrW cl g) :
  () 151 #[memV a,[c]] w fun e w'=>e=.returned (.tuple #[chV a c cl 0 g,()])/\Blw w w':=by
 have Gb:Hid (Blw w (w.alloc (.cells #[.nilIface,(),(),(),.int .u16 0] 251))):=(Below.refl _ _).alloc (nL _) _;have HL:=hid (x5g (h.below Gb.out) (ht.below Gb.out) (hp.below Gb.out) c cl g hc hcl hg0 hg hv);clear h ht hv hp;unfold chV;have d0:decide ((cl:Int)<0)=false:=dF;unfold memV at*;have Gd:=hid (Blk.new w 251 #[.nilIface,(),(),(),.int .u16 0]);go_enter Tryz.func151,Tryz.ntmps151
 go_wp2_with fail
 refine HL.out.mono ?_;rintro e w1⟨rfl,Gc⟩;have Gf:=hid (Gb.out.trans (Gc.mono Gb.out.size));have Ga:=Gd.out.below Gc Gd.out.lt;have Ge:=Ga.lt;have c0:w1.cell? (w,0)=some (.nilIface):=Ga.cell 0;have z0:w1.frozen? (w,0)=false:=Ga.frozen 0;have c1:w1.cell? (w,1)=some ↑():=Ga.cell 1;have z1:w1.frozen? (w,1)=false:=Ga.frozen 1;have c2:w1.cell? (w,2)=some ↑():=Ga.cell 2;have z2:w1.frozen? (w,2)=false:=Ga.frozen 2;have c3:w1.cell? (w,3)=some ↑():=Ga.cell 3;have z3:w1.frozen? (w,3)=false:=Ga.frozen 3;have c4:w1.cell? (w,4)=some (.int .u16 0):=Ga.cell 4;have z4:w1.frozen? (w,4)=false:=Ga.frozen 4;have Gg:w.heap.size<w1.heap.size:=Ge;clear Gc Ga HL;go_wp2;have Gh:((w,0):Addr)≠(w,1):=by simp
 have Gi:((w,0):Addr)≠(w,2):=by simp
 have Gj:((w,0):Addr)≠(w,3):=by simp
 have Gk:((w,0):Addr)≠(w,4):=by simp
 have Gl:((w,1):Addr)≠(w,2):=by simp
 have Gm:((w,1):Addr)≠(w,3):=by simp
 have Gn:((w,1):Addr)≠(w,4):=by simp
 have Gp:((w,2):Addr)≠(w,3):=by simp
 have Gq:((w,2):Addr)≠(w,4):=by simp
 have Gr:((w,3):Addr)≠(w,4):=by simp
 refine bodyPost_ret (v := .tuple #[.agg #[(57,a.th 0,0),[c],[cl],(),#[g]],()]) (by simp[results,Tryz.results151,go_sem,c0,c1,c2,c3,c4,Ge]) rfl ⟨rfl,?_⟩;have h1:=(((((Gf.out.setCell (p:=⟨w.heap.size,0,none⟩) (nL _) (57,a.th 0,0)).setCell (p:=⟨w.heap.size,1,none⟩) (nL _) [c]).setCell (p:=⟨w.heap.size,2,none⟩) (nL _) [cl]).setCell (p:=⟨w.heap.size,3,none⟩) (nL _) ()).setCell (p:=⟨w.heap.size,4,none⟩) (nL _) #[g])
 exact h1.alloc h1.size _
end
end
section
open Go.RowKit
structure ChW(cur:Nat->Nat)(ln cl g V:Nat)(bs:Nat->BK):Prop where
 hdr:cur (8*ln)=hdrW cl g
 cls:cl<5
 g0:0<g
 g1:g<65536
 bits:cur (8*ln+1)=V
 v64:V<18446744073709551616
 zero:∀j,2<=j->j<8->cur (8*ln+j)=0
 inn:∀i,i<perC cl->(bs i).In
 good:∀i,i<perC cl->(bs i).good=true
 word:∀i,i<perC cl->cur (8*ln+offB cl i)=(bs i).w
 bit:∀i,i<perC cl->z1z V i=decide ((bs i).st≠176)
 top:V<2^perC cl
def fndC(ln cl off:Nat):Option Nat:=if off<64*ln\/64*ln+2048<=off then none else y3x cl ((off-64*ln)/8)
def fndR(ln cl off:Nat):Value:=match fndC ln cl off with
 |some i => .tuple #[[i],true]
 |none => .tuple #[(),false]
theorem w0x{ln cl off i}(h:fndC ln cl off=some i):i<perC cl/\64*ln<=off/\off/8=8*ln+offB cl i+1:=by
 unfold fndC at h;split at h
 ·cases h
 ·obtain⟨h1,h2⟩:=x7k h
  refine⟨h1,oM,oM⟩
section
theorem x6u(a:DA)(ln cl g off:Nat)(hl:ln<=1000000)(hc:cl<5)(ho:off<18446744073709551616)(w:World)(hp:Pay w):
  () 230 #[chV a ln cl 0 g,off] w fun e w'=>e=.returned (fndR ln cl off)/\Blw w w':=by
 have Gc:Blw w (w.alloc (.cells (z0w a ln cl g) 251)):=(Below.refl _ _).alloc (nL _) _;have Ga:=hid Gc;have Gb:=hid (z5c ln hl);have Ge:Hid (∀x:Nat,x<=1000000000->() 247 #[[cl],[x]] (w.alloc (.cells (z0w a ln cl g) 251)) fun e w'=>e=.returned (y0n cl x)/\(w.alloc (.cells (z0w a ln cl g) 251))=w'):=hid (fun x hx=>y5f cl x hc hx _ (hp.below Gc));have hq:=z7p (some (a.th 0,()));clear hp Gc;unfold chV;unfold z0w memV at*;by_cases h1:off<64*ln
 ·have HR:Hid (fndR ln cl off=.tuple #[(),false]):=hid (by unfold fndR fndC;rw[if_pos (.inl h1)])
  have d1:decide ((off:Int)<((64*ln:Nat):Int))=true:=dT;generalize fndR ln cl off=rr at*;have hz:64*ln<9000000000:=oM;generalize 64*ln=z at*;go_enter Tryz.func230,Tryz.ntmps230
  go_wp2_with (go_at_call 269;refine(Gb.out _).mono ?_;rintro e w1⟨rfl,rfl⟩)
  go_ret2;exact⟨by rw[HR.out];rfl,Ga.out⟩
 ·have d1:decide ((off:Int)<((64*ln:Nat):Int))=false:=dF
  have Gh:decide (off<64*ln)=false:=decide_eq_false h1;obtain⟨y,hy⟩:∃y,off-64*ln=y:=⟨_,rfl⟩
  have u1:IntKind.u64.wrap ((off:Int)-((64*ln:Nat):Int))=(y:Int):=by rw[IntKind.wrap_u64];omega
  by_cases h2:64*ln+2048<=off
  ·have HR:Hid (fndR ln cl off=.tuple #[(),false]):=hid (by unfold fndR fndC;rw[if_pos (.inr h2)])
   have d2:decide (2048<=(y:Int))=true:=dT;generalize fndR ln cl off=rr at*;have hz:64*ln<9000000000:=oM;clear hy h1 h2;generalize 64*ln=z at*;go_enter Tryz.func230,Tryz.ntmps230
   go_wp2_with (go_at_call 269;refine(Gb.out _).mono ?_;rintro e w1⟨rfl,rfl⟩)
   go_ret2;exact⟨by rw[HR.out];rfl,Ga.out⟩
  ·have HR:Hid (fndR ln cl off=y0n cl (y/8)):=hid (by unfold fndR fndC y0n;rw[if_neg oM,hy];rfl)
   have d2:decide (2048<=(y:Int))=false:=dF;have Gi:y<2048:=oM;have Gd:=hid (Ge.out (y/8) oM);have u2:(y:Int)/8=((y/8:Nat):Int):=oM;have u3:IntKind.i64.wrap ((y/8:Nat):Int)=((y/8:Nat):Int):=IntWalk.i64_in _ oM;have Gj:y/8<256:=oM;generalize fndR ln cl off=rr at*;have hz:64*ln<9000000000:=oM;clear hy h1 h2 Ge;generalize 64*ln=z at*;generalize y/8=q at*;have Gf:Hid (∃(k:Int)(b:Bool),y0n cl q=.tuple #[[k],b]):=hid (by
    unfold y0n;cases y3x cl q with
    |none=>exact⟨0,false,rfl⟩
    |some i=>exact⟨(i:Int),true,rfl⟩)
   obtain⟨fk,fb,Gg⟩:=Gf.out;rw[Gg]at Gd HR;clear Gg Gf;go_enter Tryz.func230,Tryz.ntmps230
   go_wp2_with (first
    |(go_at_call 269;refine(Gb.out _).mono ?_;rintro e w1⟨rfl,rfl⟩)
    |(go_at_call 247;refine Gd.out.mono ?_;rintro e w1⟨rfl,rfl⟩))
   go_ret2;exact⟨by rw[HR.out];rfl,Ga.out⟩
end
end
end Go.Proofs.YtmhbokcccjmfgaaGreatDoor

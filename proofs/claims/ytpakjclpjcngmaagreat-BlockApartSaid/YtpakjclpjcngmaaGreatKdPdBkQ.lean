/- Contracts and plain laws that the last text rests on. Conditions: each theorem states its own. -/
import Derived.Test.YtpakjclpjcngmaaGreatKdQ36
import Derived.Test.YtpakjclpjcngmaaGreatKdQ12
import Derived.Test.YtpakjclpjcngmaaGreatKdQ38
set_option maxRecDepth 100000
set_option maxHeartbeats 32000000
set_option linter.unusedVariables false
namespace Go.Proofs.YtpakjclpjcngmaaGreat
open Go.RowKit
theorem Gs (xs:List Nat) (n:Nat) (s:iH):AY xs (n+1) s=((lH xs s).1::(AY xs n (lH xs s).2).1,(AY xs n (lH xs s).2).2):=rfl
theorem Ns (xs:List Nat) (n:Nat) (s:iH):jM xs (n+1) s=((aF xs s.1 s.2 262144).1::(jM xs n (aF xs s.1 s.2 262144).2).1,(jM xs n (aF xs s.1 s.2 262144).2).2):=rfl
theorem GN (xs:List Nat) (n:Nat) (s:iH):Fa xs (n+1) s=if Vf xs (postS xs s).2=true then ((postS xs s).1::(Fa xs n (postS xs s).2).1,(Fa xs n (postS xs s).2).2) else ([(postS xs s).1],(postS xs s).2):=rfl
def z52 (w:World) (b:List Nat) (e:Ending) (w':World):Prop:=
 ∃(A1 A2:Option Addr) (c1 c2:Nat) (ps:List PV),e=.returned (.tuple #[.agg #[.slice A1 (dQ b).1.length c1,.slice A2 (dQ b).2.1.length c2],.int .i64 (dQ b).2.2])/\
  Rd w' (fun k=>w.heap.size<=k/\k<w'.heap.size) 5 A1 (dQ b).1.length (spl (dQ b).1)/\Rd w' (fun k=>w.heap.size<=k/\k<w'.heap.size) 2 A2 (dQ b).2.1.length (kZ ps)/\ps.map PV.e=(dQ b).2.1/\
  (∀x∈ps,Rd w' (fun k=>w.heap.size<=k/\k<w'.heap.size) 1 x.A x.gs.length (ints x.gs)/\∀g∈x.gs,0<=g)/\(dQ b).1.length<=c1/\(dQ b).2.1.length<=c2/\Nx w w'
theorem z52.bad {w w':World} {b:List Nat} {er:Int} (h:dQ b=([],[],er)) (n:Nx w w'):z52 w b (.returned (.tuple #[.agg #[.slice none 0 0,.slice none 0 0],.int .i64 er])) w':=by
 refine ⟨none,none,0,0,[],?_⟩;rw[h];exact ⟨rfl,⟨rfl,fun h=>absurd h (by simp)⟩,⟨rfl,fun h=>absurd h (by simp)⟩,rfl,by simp,Nat.le_refl _,Nat.le_refl _,n⟩
theorem jQ.fin {w y:World} {d0 g b6 b7 m0 q:Nat} {A As Ap:Option Addr} {c cs cp:Nat} {xs b:List Nat} {ss:List aW} {ps:List PV} {s:iH} (h:jQ w d0 g w.heap.size b6 b7 m0 q A c xs ss ps s y) (hB:aJ y b7 49 #[.slice As ss.length cs,.slice Ap ps.length cp]) (hF:dQ b=(ss,ps.map PV.e,0)) (hN:∀x∈ps,∀g∈x.gs,0<=g):
 aJ ((y.setCell ⟨w.heap.size,0,none⟩ (.slice As ss.length cs)).setCell ⟨w.heap.size,1,none⟩ (.slice Ap ps.length cp)) w.heap.size 49 #[.slice As ss.length cs,.slice Ap ps.length cp]/\
 z52 w b (.returned (.tuple #[.agg #[.slice As ss.length cs,.slice Ap ps.length cp],.int .i64 0])) ((y.setCell ⟨w.heap.size,0,none⟩ (.slice As ss.length cs)).setCell ⟨w.heap.size,1,none⟩ (.slice Ap ps.length cp)):=by
 have C4:Ch (fun i=>i=w.heap.size) y ((y.setCell ⟨w.heap.size,0,none⟩ (.slice As ss.length cs)).setCell ⟨w.heap.size,1,none⟩ (.slice Ap ps.length cp)):=Ch.setCell (Ch.setCell (Ch.refl (· =w.heap.size) _) (p:=⟨w.heap.size,0,none⟩) (fun _=>rfl) _) (p:=⟨w.heap.size,1,none⟩) (fun _=>rfl) _
 have B4:aJ ((y.setCell ⟨w.heap.size,0,none⟩ (.slice As ss.length cs)).setCell ⟨w.heap.size,1,none⟩ (.slice Ap ps.length cp)) w.heap.size 49 #[.slice As ss.length cs,.slice Ap ps.length cp]:=by
  simpa using (h.r2.dX 0 (.slice As ss.length cs)).dX 1 (.slice Ap ps.length cp)
 refine ⟨B4,?_⟩;have o1:=z09 (h.ZO hB) C4 (fun k hk e=>by have:=((h.ZO hB).lt k hk).1;have:=h.lay;omega);have o2:=z09 (h.lq hB) C4 (fun k hk e=>by have:=((h.lq hB).lt k hk).1;have:=h.lay;omega);have hl:=h.lay;have z4:=C4.size;obtain ⟨_,_,e1,g1, -⟩:=z04 o1;obtain ⟨_,_,e2,g2, -⟩:=z04 o2;injection e1 with _ _ e1;injection e2 with _ _ e2
 have hrows:∀x∈ps,Rd ((y.setCell ⟨w.heap.size,0,none⟩ (.slice As ss.length cs)).setCell ⟨w.heap.size,1,none⟩ (.slice Ap ps.length cp)) (fun k=>w.heap.size<=k/\k<((y.setCell ⟨w.heap.size,0,none⟩ (.slice As ss.length cs)).setCell ⟨w.heap.size,1,none⟩ (.slice Ap ps.length cp)).heap.size) 1 x.A x.gs.length (ints x.gs):=fun x hx=>
  ((h.rows x hx).ch (by decide) C4 (fun k _ hk e=>by omega)).more fun k hk=>⟨by omega,by omega⟩
 have r1:=(Rd.dh o1).more (D':=fun k=>w.heap.size<=k/\k<((y.setCell ⟨w.heap.size,0,none⟩ (.slice As ss.length cs)).setCell ⟨w.heap.size,1,none⟩ (.slice Ap ps.length cp)).heap.size) fun k hk=>⟨by omega,by omega⟩;have r2:=(Rd.dh o2).more (D':=fun k=>w.heap.size<=k/\k<((y.setCell ⟨w.heap.size,0,none⟩ (.slice As ss.length cs)).setCell ⟨w.heap.size,1,none⟩ (.slice Ap ps.length cp)).heap.size) fun k hk=>⟨by omega,by omega⟩;have nx:=h.nx.trans C4 (fun i hi e=>by omega);generalize (y.setCell ⟨w.heap.size,0,none⟩ (.slice As ss.length cs)).setCell ⟨w.heap.size,1,none⟩ (.slice Ap ps.length cp)=y4 at *;refine ⟨As,Ap,cs,cp,ps,?_⟩;rw[hF];have hm:(ps.map PV.e).length=ps.length:=List.length_map _;show Ending.returned (.tuple #[.agg #[.slice As ss.length cs,.slice Ap ps.length cp],.int .i64 0])=Ending.returned (.tuple #[.agg #[.slice As ss.length cs,.slice Ap (ps.map PV.e).length cp],.int .i64 0])/\Rd y4 _ 5 As ss.length (spl ss)/\Rd y4 _ 2 Ap (ps.map PV.e).length (kZ ps)/\ps.map PV.e=ps.map PV.e/\_/\ss.length<=cs/\(ps.map PV.e).length<=cp/\Nx w y4
 rw[hm];exact ⟨rfl,r1,r2,rfl,fun x hx=>⟨hrows x hx,hN x hx⟩,by omega,by omega,nx⟩
theorem TL {w:World} {D:Nat->Prop} {A:Option Addr} {n c:Nat} {b:List Nat} (hr:Rd w D 1 A n (bl b)) (hD:∀k,D k->k<w.heap.size) (ok:okB b) (hl:b.length=n) (hn:n<=1000000000) (hc:n<=c):
 Calls Tryz.prog 27 #[.slice A n c] w (z52 w b):=by
 have NA:=(Ch.refl (fun _=>False) w).alloc (.cells #[.slice none 0 0,.slice none 0 0] 49);have HOP:=ah (z4l D A n c b _ (hr.nx (by decide) NA) (fun k hk=>Nat.lt_of_lt_of_le (hD k hk) NA.size) ok hl hn hc);have B2:=ah (aJ.new w 49 #[.slice none 0 0,.slice none 0 0]);have HNA:=ah NA;have b20:(w.alloc (.cells #[.slice none 0 0,.slice none 0 0] 49)).cell? ⟨w.heap.size,0,none⟩=some (.slice none 0 0):=B2.out.cell 0;have hsz0:(w.alloc (.cells #[.slice none 0 0,.slice none 0 0] 49)).heap.size=w.heap.size+1:=by simp
 have HSZ:=ah hsz0;clear NA hr hD b20 hsz0;by_cases hop:xK b
 ·have hlt:4<=b.length:=hop.1
  obtain ⟨xs,hxs⟩:∃xs,xs=b.take (b.length-4):=⟨_,rfl⟩;have hxl:xs.length=b.length-4:=by rw[hxs,List.length_take];omega
  have hxok:okB xs:=by rw[hxs];exact fun x hx=>ok x (List.mem_of_mem_take hx)
  have hF:dQ b=if bg xs.length (lM xs).2.2.1 (lM xs).2.2.2=0 then ((lM xs).1,(lM xs).2.1,0) else ([],[],4):=by
   unfold dQ;rw[if_pos hop,←hxs,←hxl]
  have HF:=ah hF;have HX:=ah hxs;have hxn:xs.length<=1000000000:=by omega
  clear hF hxs ok hc;go_enter Tryz.func27,Tryz.ntmps27;go_wp2_with fail;with_reducible refine HOP.out.mono ?_
  rintro e w1 ⟨hk, -⟩;obtain ⟨k,cap,rfl,o1,hcap⟩:=hk hop;rw[←HX.out,←hxl]at o1;rw[←hxl];have HNW:=ah (z21 (fun j=>j=k) (some ⟨k,0,none⟩) xs.length cap xs w1 o1.jZ hxok rfl hxn);have N1:=ah (HNA.out.trans o1.nx (fun _ _ hf=>hf));have B3:=ah (B2.out.nx o1.nx);have hs1:w.heap.size+1<=w1.heap.size:=by rw[←HSZ.out];exact o1.nx.size
  clear o1 hk hcap hxl hop hlt HOP HX B2 HNA HSZ;go_wp2_with fail;with_reducible refine HNW.out.mono ?_
  rintro e w2 ⟨g,Ac,cc,rfl,Vo,hn2,hg⟩;have hs2:g<w2.heap.size:=(Array.getElem?_eq_some_iff.1 Vo.blk).1;have FS:=jQ.start Vo (B3.out.nx hn2) (N1.out.trans hn2 (fun _ _ hf=>hf)) ⟨Nat.le_refl _,by omega,hg,hs2⟩;have Zc:=ah (z17 FS.cur 2048 (by decide) (by decide));have HFS:=ah FS;clear Vo hn2 N1 B3 HNW FS;go_wp2_with fail;refine Zc.out.mono ?_;rintro e w3 ⟨rfl,k3⟩;have F3:=ah (HFS.out.YE (s':=(aF xs 0 0 2048).2) k3);clear HFS Zc k3;generalize w2.heap.size=m at *;generalize w1.heap.size=d0 at *;have hN0:((aF xs 0 0 2048).1:Int)<=2048:=z27 (by decide);obtain ⟨N,hN⟩:∃N,N=(aF xs 0 0 2048).1:=⟨_,rfl⟩;obtain ⟨s0,hs0⟩:∃s0,s0=(aF xs 0 0 2048).2:=⟨_,rfl⟩;have HN:=ah hN;have HS0:=ah hs0;rw[←hN]at hN0 ⊢;rw[←hs0]at F3;clear hN hs0;have hN2:N<=2048:=by omega
  clear hN0;go_wp2_with fail;go_loopw [26] (fun i wr=>∃(k:Nat) (ss:List aW) (s:iH) (q:Nat),k<=N/\i=.int .i64 (k:Int)/\Hid (ss.length=k)/\Hid (jQ w d0 g w.heap.size m (m+1) (m+1+1) q Ac cc xs ss [] s wr)/\Hid (AY xs N s0=(ss++(AY xs (N-k) s).1,(AY xs (N-k) s).2))) (fun i _=>N-(intOf i).toNat)
  case atStart=>exact ⟨0,[],s0,_,Nat.zero_le _,rfl,ah rfl,F3,ah (by simp)⟩
  case round=>
   clear F3;obtain ⟨w4,rfl⟩:∃w4:World,w4=wr:=⟨_,rfl⟩;obtain ⟨k,ss,s,q,hkn,rfl,hsl,HI,HS⟩:=hrel;by_cases hlt:k<N
   ·obtain ⟨i0,hi0,hz0,hz1,hz2⟩:=info_parts Tryz.Dh
    have hsn:ss.length<=2048:=by rw[hsl.out];omega
    obtain ⟨v,vp,B7,o1,o2,u1,u2⟩:=HI.out.idx;obtain ⟨Av,cv,rfl, -, -⟩:=z04 o1;have c70:w4.cell? ⟨m+1,0,none⟩=some (.slice Av ss.length cv):=B7.cell 0;go_wp2_with fail;refine Qc (fun w'=>w'.cell? ⟨m+1,0,none⟩=some (.slice Av ss.length cv)) (fun i=>decide (14<=i)) rfl (B7.cell 0) (fun hS0=>?_)
    try simp only[Act.put,eu,dY,dZ]
    refine z00 (i:=0) (oi:=_) (v:=?_) rfl (fun _ _ _ h=>h) (Or.inl ⟨by rfl,?_⟩) ?_;rotate_left
    ·(intro w hSw;(try dsimp only at hSw);go_split_ands;go_simp;try with_reducible rfl)
    try simp only[Act.put,List.setIfInBounds_toArray]
    refine z00 (i:=1) (oi:=_) (v:=?_) rfl (fun _ _ _ h=>h) (Or.inl ⟨by rfl,?_⟩) ?_;rotate_left
    ·(intro w hSw;(try dsimp only at hSw);go_split_ands;go_simp;try with_reducible rfl)
    try simp only[Act.put]
    refine z00 (i:=2) (oi:=_) (v:=?_) rfl (fun _ _ _ h=>h) (Or.inl ⟨by rfl,?_⟩) ?_;rotate_left
    ·(intro w hSw;(try dsimp only at hSw);go_split_ands;go_simp;try with_reducible rfl)
    try simp only[Act.put]
    refine z00 (i:=4) (oi:=_) (v:=?_) rfl (fun _ _ _ h=>h) (Or.inl ⟨by rfl,?_⟩) ?_;rotate_left
    ·(intro w hSw;(try dsimp only at hSw);go_split_ands;go_simp;try with_reducible rfl)
    try simp only[Act.put]
    refine z00 (i:=6) (oi:=_) (v:=?_) rfl (fun _ _ _ h=>h) (Or.inl ⟨by rfl,?_⟩) ?_;rotate_left
    ·(intro w hSw;(try dsimp only at hSw);go_split_ands;go_simp;try with_reducible rfl)
    try simp only[Act.put]
    refine z00 (i:=8) (oi:=_) (v:=?_) rfl (fun _ _ _ h=>h) (Or.inl ⟨by rfl,?_⟩) ?_;rotate_left
    ·(intro w hSw;(try dsimp only at hSw);go_split_ands;go_simp;try with_reducible rfl)
    try simp only[Act.put]
    refine z00 (i:=10) (oi:=_) (v:=?_) rfl (fun _ _ _ h=>h) (Or.inl ⟨by rfl,?_⟩) ?_;rotate_left
    ·(intro w hSw;(try dsimp only at hSw);go_split_ands;go_simp;try with_reducible rfl)
    try simp only[Act.put]
    refine z02 (rs:=[3]) (by kernel_rfl) (by simp) (z01.cons (o:=_) rfl (fun K hK=>?_) z01.nil);go_simp;obtain ⟨t0,ht0⟩:∃t,t=aF xs s.1 s.2 262144:=⟨_,rfl⟩;have HT0:=ah ht0;have hca:=z4f (HI.out.nS ((Ch.refl _ _).drewN 1));rw[←ht0]at hca;clear ht0;refine hca.mono ?_;rintro e x0 ⟨rfl,f5,c5⟩;have J0:=ah f5;have D0:=ah (aJ.ch (B7.drew) c5 (by omega));have kF:(fun w'=>w'.cell? ⟨m+1,0,none⟩=some (.slice Av ss.length cv)) x0:=D0.out.cell 0;clear hca f5 c5 HI;refine hK.out _ _ (fun _=>kF) (fun aj=>?_);have hHeld:=aj (by decide);clear hK K aj kF
    try simp only[Act.put,eu,dY,dZ]
    refine z02 (rs:=[5]) (by kernel_rfl) (by simp) (z01.cons (o:=_) rfl (fun K hK=>?_) z01.nil);go_simp;obtain ⟨t1,ht1⟩:∃t,t=aF xs t0.2.1 t0.2.2 262144:=⟨_,rfl⟩;have HT1:=ah ht1;have hca:=z4f J0.out;rw[←ht1]at hca;clear ht1;refine hca.mono ?_;rintro e x1 ⟨rfl,f5,c5⟩;have J1:=ah f5;have D1:=ah (aJ.ch D0.out c5 (by omega));have kF:(fun w'=>w'.cell? ⟨m+1,0,none⟩=some (.slice Av ss.length cv)) x1:=D1.out.cell 0;clear hca f5 c5 J0 D0;refine hK.out _ _ (fun _=>kF) (fun aj=>?_);have hHeld:=aj (by decide);clear hK K aj kF
    try simp only[Act.put,eu,dY,dZ]
    refine z02 (rs:=[7]) (by kernel_rfl) (by simp) (z01.cons (o:=_) rfl (fun K hK=>?_) z01.nil);go_simp;obtain ⟨t2,ht2⟩:∃t,t=aF xs t1.2.1 t1.2.2 262144:=⟨_,rfl⟩;have HT2:=ah ht2;have hca:=z4f J1.out;rw[←ht2]at hca;clear ht2;refine hca.mono ?_;rintro e x2 ⟨rfl,f5,c5⟩;have J2:=ah f5;have D2:=ah (aJ.ch D1.out c5 (by omega));have kF:(fun w'=>w'.cell? ⟨m+1,0,none⟩=some (.slice Av ss.length cv)) x2:=D2.out.cell 0;clear hca f5 c5 J1 D1;refine hK.out _ _ (fun _=>kF) (fun aj=>?_);have hHeld:=aj (by decide);clear hK K aj kF
    try simp only[Act.put,eu,dY,dZ]
    refine z02 (rs:=[9]) (by kernel_rfl) (by simp) (z01.cons (o:=_) rfl (fun K hK=>?_) z01.nil);go_simp;obtain ⟨t3,ht3⟩:∃t,t=aF xs t2.2.1 t2.2.2 1099511627775:=⟨_,rfl⟩;have HT3:=ah ht3;have hca:=wP J2.out;rw[←ht3]at hca;clear ht3;refine hca.mono ?_;rintro e x3 ⟨rfl,f5,c5⟩;have J3:=ah f5;have D3:=ah (aJ.ch D2.out c5 (by omega));have kF:(fun w'=>w'.cell? ⟨m+1,0,none⟩=some (.slice Av ss.length cv)) x3:=D3.out.cell 0;clear hca f5 c5 J2 D2;refine hK.out _ _ (fun _=>kF) (fun aj=>?_);have hHeld:=aj (by decide);clear hK K aj kF
    try simp only[Act.put,eu,dY,dZ]
    refine z02 (rs:=[11]) (by kernel_rfl) (by simp) (z01.cons (o:=_) rfl (fun K hK=>?_) z01.nil);go_simp;obtain ⟨t4,ht4⟩:∃t,t=aF xs t3.2.1 t3.2.2 1099511627775:=⟨_,rfl⟩;have HT4:=ah ht4;have hca:=wP J3.out;rw[←ht4]at hca;clear ht4;refine hca.mono ?_;rintro e x4 ⟨rfl,f5,c5⟩;have J4:=ah f5;have D4:=ah (aJ.ch D3.out c5 (by omega));have kF:(fun w'=>w'.cell? ⟨m+1,0,none⟩=some (.slice Av ss.length cv)) x4:=D4.out.cell 0;clear hca f5 c5 J3 D3;refine hK.out _ _ (fun _=>kF) (fun aj=>?_);have hHeld:=aj (by decide);clear hK K aj kF
    try simp only[Act.put,eu,dY,dZ]
    refine z00 (i:=12) (oi:=_) (v:=?_) rfl (fun _ _ _ h=>h) (Or.inl ⟨by rfl,?_⟩) ?_;rotate_left
    ·(intro w hSw;(try dsimp only at hSw);go_split_ands;go_simp;try with_reducible rfl)
    try simp only[Act.put,List.setIfInBounds_toArray]
    refine z02 (rs:=[13]) (by kernel_rfl) (by simp) (z01.cons (o:=_) rfl (fun K hK=>?_) z01.nil);have NA:Nx x4 (x4.alloc (.cells #[.int .i64 (t0.1:Int),.int .i64 (t1.1:Int),.int .i64 (t2.1:Int),.int .i64 (t3.1:Int),.int .i64 (t4.1:Int)] 53)):=(Ch.refl (fun _=>False) x4).alloc _;have J5:=ah (J4.out.nS NA);have D5:=ah (D4.out.nx NA);have kF:(fun w'=>w'.cell? ⟨m+1,0,none⟩=some (.slice Av ss.length cv)) (x4.alloc (.cells #[.int .i64 (t0.1:Int),.int .i64 (t1.1:Int),.int .i64 (t2.1:Int),.int .i64 (t3.1:Int),.int .i64 (t4.1:Int)] 53)):=D5.out.cell 0;have AO:Hid (Rd (x4.alloc (.cells #[.int .i64 (t0.1:Int),.int .i64 (t1.1:Int),.int .i64 (t2.1:Int),.int .i64 (t3.1:Int),.int .i64 (t4.1:Int)] 53)) (fun k=>k=x4.heap.size) 5 (some ⟨x4.heap.size,0,none⟩) 1 (spl [(⟨(t0.1:Int),(t1.1:Int),(t2.1:Int),(t3.1:Int),(t4.1:Int)⟩:aW)])):=ah (Rd.YF x4 (⟨(t0.1:Int),(t1.1:Int),(t2.1:Int),(t3.1:Int),(t4.1:Int)⟩:aW));have HOW:=ah (J5.out.ZO D5.out);clear NA J4 D4;go_simp;refine hK.out _ _ (fun _=>kF) (fun aj=>?_);have hHeld:=aj (by decide);clear hK K aj kF
    try simp only[Act.put,eu,dY,dZ]
    refine z02 (rs:=[14]) (by kernel_rfl) (by simp) (z01.cons (o:=_) rfl (fun K hK=>?_) z01.nil);refine PG _ rfl (.tmp 29) (.tmp 41) _ rfl (m+1+1) 53 i0 _ 5 40 Tryz.underlying46 hi0 hz0 hz1 hz2 rfl (by omega) (.slice Av ss.length cv) ss.length (spl ss) rfl HOW.out _ (some ⟨x4.heap.size,0,none⟩) 1 1 _ rfl AO.out (Kw _) (by simp only[maxLen];omega) (by omega) J5.out.lay.2.2.2.2.2.2.1 ?_;intro v6 x6 GY gr6 at6;obtain ⟨A6,cp6,rfl, -, -⟩:=z04 GY;have J6:=ah (jQ.span J5.out D5.out gr6 GY);have c6:Ch (fun r=>(Value.slice Av ss.length cv).ownBlock=some r) (x4.alloc (.cells #[.int .i64 (t0.1:Int),.int .i64 (t1.1:Int),.int .i64 (t2.1:Int),.int .i64 (t3.1:Int),.int .i64 (t4.1:Int)] 53)) x6:=(Ch.refl _ _).grown gr6 (fun r hr _=>hr);have D6:=ah (D5.out.ch c6 (fun hs=>z06 HOW.out D5.out (by decide) hs));have b6c:x6.cell? ⟨m+1,0,none⟩=some (.slice Av ss.length cv):=D6.out.cell 0;have b6f:x6.frozen? ⟨m+1,0,none⟩=false:=D6.out.frozen 0;clear GY gr6 at6 c6;refine hK.out _ _ (fun h=>absurd h (by decide)) (fun aj=>?_);clear hK K aj
    try simp only[Act.put,List.setIfInBounds_toArray]
    refine z02 (rs:=[15]) (by kernel_rfl) (by simp) (z01.cons (o:=_) rfl (fun K hK=>?_) z01.nil);go_simp;refine hK.out _ _ (fun h=>absurd h (by decide)) (fun aj=>?_);clear hK K aj
    try simp only[Act.put,eu,dY,dZ]
    refine z02 (rs:=[16]) (by kernel_rfl) (by simp) (z01.cons (o:=_) rfl (fun K hK=>?_) z01.nil);go_simp;refine hK.out _ _ (fun h=>absurd h (by decide)) (fun aj=>?_);clear hK K aj
    try simp only[Act.put,eu,dY,dZ]
    refine JU (by kernel_rfl) ?_ _;clear b6c b6f D6 D5 J5 HOW AO;generalize x6.setCell ⟨m+1,0,none⟩ (.slice A6 (ss.length+1) cp6)=x7 at *;clear o2 o1 B7 c70;go_wp2_with fail;go_roundw
    case rel=>
     refine ⟨k+1,_,_,_,hlt,by go_num,ah (by rw[List.length_append,hsl.out];rfl),J6,ah ?_⟩;have hN':N-k=(N-(k+1))+1:=(by omega);have h:=HS.out;rw[hN',Gs]at h
     have hsp:lH xs s=(⟨(t0.1:Int),(t1.1:Int),(t2.1:Int),(t3.1:Int),(t4.1:Int)⟩,t4.2):=by
      rw[HT4.out,HT3.out,HT2.out,HT1.out,HT0.out];rfl
     rw[hsp]at h;rw[h];simp
    case measure=>simp[intOf];omega
   ·have hkk:k=N:=by omega
    have HSP:Hid (AY xs N s0=(ss,s)):=ah (by
     have:=HS.out;rw[hkk,Nat.sub_self]at this;rw[this];simp[AY])
    have hsn:ss.length<=2048:=by rw[hsl.out];omega
    have Zc:=ah (z17 HI.out.cur 2048 (by decide) (by decide));have c60:w4.cell? ⟨m,0,none⟩=some (.pointer (some ⟨g,0,none⟩)):=HI.out.r6.cell 0;clear hkk HS hsl;go_wp2_with fail;refine Zc.out.mono ?_;rintro e w5 ⟨rfl,k5⟩;have F5:=ah (HI.out.YE (s':=(aF xs s.1 s.2 2048).2) k5);clear HI Zc k5 c60 hlt hkn;have hM0:((aF xs s.1 s.2 2048).1:Int)<=2048:=z27 (by decide);obtain ⟨M,hM⟩:∃M,M=(aF xs s.1 s.2 2048).1:=⟨_,rfl⟩;obtain ⟨s1,hs1⟩:∃s1,s1=(aF xs s.1 s.2 2048).2:=⟨_,rfl⟩;have HM:=ah hM;have HS1:=ah hs1;rw[←hM]at hM0 ⊢;rw[←hs1]at F5;clear hM hs1;have hM2:M<=2048:=by omega
    have HFT:Hid (lM xs=(ss,(Fa xs M s1).1,(Fa xs M s1).2)):=ah (by
     unfold lM;simp only[←HN.out,←HS0.out,HSP.out,←HM.out,←HS1.out])
    clear hM0 HN HS0 HM HS1 HSP;go_wp2_with fail;go_loopw [47] (fun i wr=>∃(k:Nat) (ps:List PV) (s:iH) (q:Nat),k<=M/\i=.int .i64 (k:Int)/\Hid (ps.length=k)/\Hid (∀x∈ps,∀g∈x.gs,0<=g)/\Hid (jQ w d0 g w.heap.size m (m+1) (m+1+1) q Ac cc xs ss ps s wr)/\Hid (Fa xs M s1=(ps.map PV.e++(Fa xs (M-k) s).1,(Fa xs (M-k) s).2))) (fun i _=>M-(intOf i).toNat)
    case atStart=>exact ⟨0,[],s1,_,Nat.zero_le _,rfl,ah rfl,ah (by simp),F5,ah (by simp)⟩
    case round=>
     clear F5;obtain ⟨w6,rfl⟩:∃w6:World,w6=wr:=⟨_,rfl⟩;obtain ⟨k,ps,s,q,hkn,rfl,hpl,xI,HI,HS⟩:=hrel;have c60:w6.cell? ⟨m,0,none⟩=some (.pointer (some ⟨g,0,none⟩)):=HI.out.r6.cell 0;by_cases hlt:k<M
     ·have hpn:ps.length<=2048:=by rw[hpl.out];omega
      have HTX:=ah (qQ HI.out.cur 1024 (by decide));go_wp2_with fail;refine HTX.out.mono ?_;rintro e w7 ⟨rfl,k7⟩;obtain ⟨tt,htt⟩:∃t,t=bT xs s.1 s.2 1024:=⟨_,rfl⟩;have F7:=HI.out.YE (s':=(bT xs s.1 s.2 1024).2) k7;rw[←htt]at F7 ⊢;have HTT:=ah htt;have NA:Nx w7 (w7.alloc (.cells #[.string (aX tt.1),.slice none 0 0] 90)):=(Ch.refl (fun _=>False) w7).alloc _;have F8:=ah ((F7.more F7.lay.2.2.2.2.2.2.2.2 (Nat.le_refl _)).nS NA);have BP:=ah (aJ.new w7 90 #[.string (aX tt.1),.slice none 0 0]);have c68:(w7.alloc (.cells #[.string (aX tt.1),.slice none 0 0] 90)).cell? ⟨m,0,none⟩=some (.pointer (some ⟨g,0,none⟩)):=F8.out.r6.cell 0;have c67:w7.cell? ⟨m,0,none⟩=some (.pointer (some ⟨g,0,none⟩)):=F7.r6.cell 0;have Zc:=ah (z17 F8.out.cur 2048 (by decide) (by decide));clear htt k7 F7 NA HI HTX c60;go_wp2_with fail;refine Zc.out.mono ?_;rintro e w9 ⟨rfl,k9⟩;have hr:m+1+1<=w7.heap.size:=F8.out.lay.2.2.2.2.2.2.2.1;have BP9:=ah (BP.out.ch k9.2 (by omega))
      have hr9:w7.heap.size+1<=w9.heap.size:=by
       have:=k9.2.size;simp at this;omega
      have hG0:((aF xs tt.2.1 tt.2.2 2048).1:Int)<=2048:=z27 (by decide);have F9:=ah (F8.out.YE (s':=(aF xs tt.2.1 tt.2.2 2048).2) k9);obtain ⟨G,hG⟩:∃t,t=(aF xs tt.2.1 tt.2.2 2048).1:=⟨_,rfl⟩;obtain ⟨sG,hsG⟩:∃t,t=(aF xs tt.2.1 tt.2.2 2048).2:=⟨_,rfl⟩;have HG:=ah hG;have HSG:=ah hsG;rw[←hG]at hG0 ⊢;rw[←hsG]at F9;clear hG hsG k9 BP F8 Zc c67 c68;have hG2:G<=2048:=(by omega);clear hG0;generalize w7.heap.size=r at *;go_wp2_with fail;go_loopw [54] (fun i wr=>∃(j:Nat) (gs:List Nat) (s':iH) (vg:Value),j<=G/\i=.int .i64 (j:Int)/\Hid (gs.length=j)/\Hid (jQ w d0 g w.heap.size m (m+1) (m+1+1) r Ac cc xs ss ps s' wr)/\Hid (aJ wr r 90 #[.string (aX tt.1),vg])/\Hid (wr.ownsRow (r+1) 3 1 vg gs.length (ints (zl gs)))/\r+1<=wr.heap.size/\Hid (jM xs G sG=(gs++(jM xs (G-j) s').1,(jM xs (G-j) s').2))) (fun i _=>G-(intOf i).toNat)
      case atStart=>exact ⟨0,[],sG,_,Nat.zero_le _,rfl,ah rfl,F9,BP9,ah (World.ownsRow_nil _ _ _ _),hr9,ah (by simp)⟩
      case round=>
       clear F9 BP9 hr9;obtain ⟨y0,rfl⟩:∃y0:World,y0=wr:=⟨_,rfl⟩;obtain ⟨j,gs,s',vg,hjn,rfl,hgl,HJ,HB,HW,hry,HNS⟩:=hrel;obtain ⟨Ag,cg,rfl, -, -⟩:=z04 HW.out;by_cases hlt2:j<G
       ·obtain ⟨i0,hi0,hz0,hz1,hz2⟩:=info_parts Tryz.lK
        have hgn:gs.length<=2048:=by rw[hgl.out];omega
        have cr1:y0.cell? ⟨r,1,none⟩=some (.slice Ag gs.length cg):=HB.out.cell 1;go_wp2_with fail;refine Qc (fun w'=>w'.cell? ⟨r,1,none⟩=some (.slice Ag gs.length cg)) (fun i=>decide (5<=i)) rfl (HB.out.cell 1) (fun hS0=>?_)
        try simp only[Act.put,eu,dY,dZ]
        refine z00 (i:=0) (oi:=_) (v:=?_) rfl (fun _ _ _ h=>h) (Or.inl ⟨by rfl,?_⟩) ?_;rotate_left
        ·(intro w hSw;(try dsimp only at hSw);go_split_ands;go_simp;try with_reducible rfl)
        try simp only[Act.put,List.setIfInBounds_toArray]
        refine z00 (i:=1) (oi:=_) (v:=?_) rfl (fun _ _ _ h=>h) (Or.inl ⟨by rfl,?_⟩) ?_;rotate_left
        ·(intro w hSw;(try dsimp only at hSw);go_split_ands;go_simp;try with_reducible rfl)
        try simp only[Act.put]
        refine z00 (i:=2) (oi:=_) (v:=?_) rfl (fun _ _ _ h=>h) (Or.inl ⟨by rfl,?_⟩) ?_;rotate_left
        ·(intro w hSw;(try dsimp only at hSw);go_split_ands;go_simp;try with_reducible rfl)
        try simp only[Act.put]
        refine z02 (rs:=[3]) (by kernel_rfl) (by simp) (z01.cons (o:=_) rfl (fun K hK=>?_) z01.nil);go_simp;obtain ⟨t0,ht0⟩:∃t,t=aF xs s'.1 s'.2 262144:=⟨_,rfl⟩;have HT0:=ah ht0;have hca:=z4f (HJ.out.nS ((Ch.refl _ _).drewN 1));rw[←ht0]at hca;clear ht0;refine hca.mono ?_;rintro e x0 ⟨rfl,f5,c5⟩;have J0:=ah f5;have D0:=ah (aJ.ch HB.out.drew c5 (by omega));have OW0:=ah (z09 (w:=y0.drew) HW.out c5 (fun i hi e=>by have:=(HW.out.lt i hi).1;omega));have hry0:r+1<=x0.heap.size:=Nat.le_trans hry c5.size;have kF:(fun w'=>w'.cell? ⟨r,1,none⟩=some (.slice Ag gs.length cg)) x0:=D0.out.cell 1;clear hca f5 c5 HJ HB HW cr1;refine hK.out _ _ (fun _=>kF) (fun aj=>?_);have hHeld:=aj (by decide);clear hK K aj kF
        try simp only[Act.put,eu,dY,dZ]
        refine z02 (rs:=[4]) (by kernel_rfl) (by simp) (z01.cons (o:=_) rfl (fun K hK=>?_) z01.nil);have NA:Nx x0 (x0.alloc (.cells #[.int .i64 (t0.1:Int)] 3)):=(Ch.refl (fun _=>False) x0).alloc _;have J1:=ah (J0.out.nS NA);have D1:=ah (D0.out.nx NA);have HOW:=ah (z09 OW0.out NA (fun _ _ hf=>hf));have kF:(fun w'=>w'.cell? ⟨r,1,none⟩=some (.slice Ag gs.length cg)) (x0.alloc (.cells #[.int .i64 (t0.1:Int)] 3)):=D1.out.cell 1;have AO:=ah (Rd.lit x0 #[.int .i64 (t0.1:Int)] 3 (0,0));have aaw:r+1<=(x0.alloc (.cells #[.int .i64 (t0.1:Int)] 3)).heap.size:=Nat.le_trans hry0 NA.size;clear NA J0 D0 OW0;go_simp;refine hK.out _ _ (fun _=>kF) (fun aj=>?_);have hHeld:=aj (by decide);clear hK K aj kF
        try simp only[Act.put,eu,dY,dZ]
        refine z02 (rs:=[5]) (by kernel_rfl) (by simp) (z01.cons (o:=_) rfl (fun K hK=>?_) z01.nil);refine PG _ rfl (.tmp 57) (.tmp 60) _ rfl (r+1) 3 i0 _ 1 8 Tryz.underlying88 hi0 hz0 hz1 hz2 rfl (by omega) (.slice Ag gs.length cg) gs.length (ints (zl gs)) rfl HOW.out _ (some ⟨x0.heap.size,0,none⟩) 1 1 _ rfl AO.out (by intro u hu;simp at hu;subst hu;rfl) (by simp only[maxLen];omega) (by omega) aaw ?_;intro v6 x6 GY gr6 at6;obtain ⟨A6,cp6,rfl, -, -⟩:=z04 GY;have c6:Ch (fun i=>(Value.slice Ag gs.length cg).ownBlock=some i) (x0.alloc (.cells #[.int .i64 (t0.1:Int)] 3)) x6:=(Ch.refl _ _).grown gr6 (fun r hr _=>hr);have J6:=ah (J1.out.far c6 (fun i hi=>by have:=(HOW.out.lt i hi).1;omega));have D6:=ah (D1.out.ch c6 (fun hs=>z06 HOW.out D1.out (by decide) hs));have O6:=ah GY;have b6c:x6.cell? ⟨r,1,none⟩=some (.slice Ag gs.length cg):=D6.out.cell 1;have b6f:x6.frozen? ⟨r,1,none⟩=false:=D6.out.frozen 1;have adP:r+1<=x6.heap.size:=Nat.le_trans aaw c6.size;clear GY gr6 at6 c6 J1 D1 HOW AO aaw;refine hK.out _ _ (fun h=>absurd h (by decide)) (fun aj=>?_);clear hK K aj
        try simp only[Act.put,List.setIfInBounds_toArray]
        refine z02 (rs:=[6]) (by kernel_rfl) (by simp) (z01.cons (o:=_) rfl (fun K hK=>?_) z01.nil);go_simp;refine hK.out _ _ (fun h=>absurd h (by decide)) (fun aj=>?_);clear hK K aj
        try simp only[Act.put,eu,dY,dZ]
        refine z02 (rs:=[7]) (by kernel_rfl) (by simp) (z01.cons (o:=_) rfl (fun K hK=>?_) z01.nil);go_simp;refine hK.out _ _ (fun h=>absurd h (by decide)) (fun aj=>?_);clear hK K aj
        try simp only[Act.put,eu,dY,dZ]
        refine JU (by kernel_rfl) ?_ _;have CS:Ch (· =r) x6 (x6.setCell ⟨r,1,none⟩ (.slice A6 (gs.length+1) cp6)):=Ch.setCell (Ch.refl (· =r) _) (p:=⟨r,1,none⟩) (fun _=>rfl) _;have J7:=ah (J6.out.far CS (fun i hi=>by omega));have D7:=ah (show aJ (x6.setCell ⟨r,1,none⟩ (.slice A6 (gs.length+1) cp6)) r 90 #[.string (aX tt.1),.slice A6 (gs.length+1) cp6] from by simpa using D6.out.dX 1 (.slice A6 (gs.length+1) cp6));have O7:=ah (z09 O6.out CS (fun i hi e=>by have:=(O6.out.lt i hi).1;omega));have hry7:r+1<=(x6.setCell ⟨r,1,none⟩ (.slice A6 (gs.length+1) cp6)).heap.size:=Nat.le_trans adP CS.size;clear b6c b6f D6 J6 O6 CS adP;generalize x6.setCell ⟨r,1,none⟩ (.slice A6 (gs.length+1) cp6)=x7 at *;go_wp2_with fail;go_roundw
        case rel=>
         refine ⟨j+1,gs++[t0.1],_,_,hlt2,by go_num,ah (by rw[List.length_append,hgl.out];rfl),J7,D7,ah ?_,hry7,ah ?_⟩
         ·have h:=O7.out
          rw[List.length_append];simpa [ints,zl]using h
         ·have hN':G-j=(G-(j+1))+1:=by omega
          have h:=HNS.out;rw[hN',Ns,←HT0.out]at h;rw[h];simp
        case measure=>simp[intOf];omega
       ·have hjj:j=G:=by omega
        have HNE:Hid (jM xs G sG=(gs,s')):=ah (by
         have:=HNS.out;rw[hjj,Nat.sub_self]at this;rw[this];simp[jM])
        have hzl:(zl gs).length=gs.length:=(by simp[zl]);obtain ⟨v,vp,B7,o1,o2,u1,u2⟩:=HJ.out.idx;obtain ⟨As,cs,rfl, -, -⟩:=z04 o1;obtain ⟨Ap,cp,rfl, -, -⟩:=z04 o2;have HB7:=ah B7;have br0:y0.cell? ⟨r,0,none⟩=some (.string (aX tt.1)):=HB.out.cell 0;have br1:y0.cell? ⟨r,1,none⟩=some (.slice Ag gs.length cg):=HB.out.cell 1;have c71:y0.cell? ⟨m+1,1,none⟩=some (.slice Ap ps.length cp):=HB7.out.cell 1;obtain ⟨i0,hi0,hz0,hz1,hz2⟩:=info_parts Tryz.Di;have NA:Nx y0 (y0.alloc (.cells #[.string (aX tt.1),.slice Ag gs.length cg] 90)):=(Ch.refl (fun _=>False) y0).alloc _;have abp:=Rd.YG y0 ⟨aX tt.1,zl gs,Ag,cg⟩;rw[show pvA ⟨aX tt.1,zl gs,Ag,cg⟩= #[.string (aX tt.1),.slice Ag gs.length cg] by simp[pvA,zl]]at abp;have AO:=ah abp;have HJ1:=ah (HJ.out.nS NA);have HB71:=ah (HB7.out.nx NA);have HOW:=ah (HJ1.out.lq HB71.out);have HX:=ah (z09 HW.out NA (fun _ _ hf=>hf))
        have hxr:Hid (Rd (y0.alloc (.cells #[.string (aX tt.1),.slice Ag gs.length cg] 90)) (fun k=>m+1+1<=k/\∃cs,aJ (y0.alloc (.cells #[.string (aX tt.1),.slice Ag gs.length cg] 90)) k 3 cs) 1 Ag (zl gs).length (ints (zl gs))):=ah (by
         rw[hzl];exact (Rd.dh HX.out).more fun k hk=>⟨by omega,kJ HX.out hk.1⟩)
        have hbase:m+1+1<=(y0.alloc (.cells #[.string (aX tt.1),.slice Ag gs.length cg] 90)).heap.size:=HJ1.out.lay.2.2.2.2.2.2.1;clear o1 o2 u1 u2 B7 NA abp HNS hjj HW;go_wp2_with (at_builtin;go_loud (refine z03 _ rfl (.tmp 65) (.tmp 67) _ rfl (m+1+1) 90 i0 _ 2 40 Tryz.underlying47 hi0 hz0 hz1 hz2 rfl (by omega) (.slice Ap ps.length cp) ps.length (kZ ps) rfl HOW.out _ (some ⟨y0.heap.size,0,none⟩) 1 1 _ rfl AO.out (KF _) (by simp only[maxLen];omega) (by omega) hbase ?_;intro v8 W3 GX gr8 at8;obtain ⟨A8,c8,rfl, -, -⟩:=z04 GX;have HP3:=ah (jQ.post (x:=⟨aX tt.1,zl gs,Ag,cg⟩) HJ1.out HB71.out gr8 GX hxr.out (fun k hk=>by obtain ⟨cs2,hB2⟩:=hk;exact (Array.getElem?_eq_some_iff.1 hB2).1));have c13:Ch (fun i=>(Value.slice Ap ps.length cp).ownBlock=some i) (y0.alloc (.cells #[.string (aX tt.1),.slice Ag gs.length cg] 90)) W3:=(Ch.refl _ _).grown gr8 (fun r hr _=>hr);have B3:=HB71.out.ch c13 (fun hs=>z06 HOW.out HB71.out (by decide) hs);have b3c:W3.cell? ⟨m+1,1,none⟩=some (.slice Ap ps.length cp):=B3.cell 1;have b3f:W3.frozen? ⟨m+1,1,none⟩=false:=B3.frozen 1;have C6:(W3.setCell ⟨m+1,1,none⟩ (.slice A8 (ps.length+1) c8)).cell? ⟨m,0,none⟩=some (.pointer (some ⟨g,0,none⟩)):=HP3.out.r6.cell 0;clear GX gr8 at8 c13 B3))
        generalize W3.setCell ⟨m+1,1,none⟩ (.slice A8 (ps.length+1) c8)=y2 at *;obtain ⟨x,hx⟩:∃x:PV,x=⟨aX tt.1,zl gs,Ag,cg⟩:=⟨_,rfl⟩
        have HN2:=ah (show ∀y∈ps++[x],∀g∈y.gs,(0:Int)<=g from fun y hy g hg=>(List.mem_append.1 hy).elim (fun h=>xI.out y h g hg) fun h=>by
         rw[List.mem_singleton.1 h,hx]at hg;obtain ⟨z,_,rfl⟩:=List.mem_map.1 hg;exact Int.natCast_nonneg z)
        have HPS:Hid (postS xs s=(PV.e x,s')):=ah (by
         rw[hx];unfold postS;simp only[←HTT.out,←HG.out,←HSG.out,HNE.out];simp[PV.e,JL])
        rw[←hx]at HP3;generalize W3.heap.size=q3 at *;obtain ⟨ce,hce⟩:∃t,t=bg xs.length s'.1 s'.2:=⟨_,rfl⟩;have HE0:=su HP3.out.cur;rw[←hce]at HE0;have HE1:=ah (fun nd=>su (HP3.out.nS ((Ch.refl _ y2).drewN nd)).cur);rw[←hce]at HE1;have HE:=ah HE0;have Ae:=ah hce;have hN':M-k=(M-(k+1))+1:=(by omega);have hPO:=HS.out;rw[hN',GN,HPS.out]at hPO;have HPO:=ah hPO;clear hce HE0 hx hPO hN' HS HTT HG HSG HNE AO HJ1 HB71 HOW HX hxr hbase b3c b3f br0 br1 c71 HB7 HJ HB hzl;by_cases hc0:ce=0
        ·have hq:(ce !=0)=false:=by rw[hc0];rfl
         have hgo:Hid (Vf xs s'=true):=ah (by unfold Vf;rw[←Ae.out,hc0];rfl);clear hc0;refine HE.out.mono ?_;rintro e y3 ⟨rfl,nd,rfl⟩;have F4:=ah (HP3.out.nS ((Ch.refl _ y2).drewN nd));clear HP3 HE HE1 C6;generalize y2.drewN nd=y5 at *;go_wp2_with fail;go_roundw
         case rel=>
          refine ⟨k+1,ps++[x],_,_,hlt,by go_num,ah (by rw[List.length_append,hpl.out];rfl),HN2,F4,ah ?_⟩;rw[HPO.out,if_pos hgo.out];simp
         case measure=>simp[intOf];omega
        ·by_cases hc5:ce=5
         ·have hq:(ce !=0)=true:=by rw[hc5];rfl
          have hq5:(ce !=5)=false:=by rw[hc5];rfl
          have hgo:Hid (Vf xs s'=true):=ah (by unfold Vf;rw[←Ae.out,hc5];rfl);clear hc0 hc5;refine HE.out.mono ?_;rintro e y3 ⟨rfl,nd,rfl⟩;have HE2:=ah (HE1.out nd);have F4:=ah (HP3.out.nS ((Ch.refl _ y2).drewN nd));have c64:(y2.drewN nd).cell? ⟨m,0,none⟩=some (.pointer (some ⟨g,0,none⟩)):=F4.out.r6.cell 0;clear HP3 HE HE1 C6;generalize y2.drewN nd=y5 at *;go_wp2_with fail;refine HE2.out.mono ?_;rintro e y6 ⟨rfl,ne,rfl⟩;have F5:=ah (F4.out.nS ((Ch.refl _ y5).drewN ne));clear F4 HE2 c64;generalize y5.drewN ne=y7 at *;go_wp2_with fail;go_roundw
          case rel=>
           refine ⟨k+1,ps++[x],_,_,hlt,by go_num,ah (by rw[List.length_append,hpl.out];rfl),HN2,F5,ah ?_⟩;rw[HPO.out,if_pos hgo.out];simp
          case measure=>simp[intOf];omega
         ·have hqa:(ce !=0)=true:=by simpa using hc0
          have hq5:(ce !=5)=true:=(by simpa using hc5);have hgo:Hid (Vf xs s'=false):=ah (by unfold Vf;rw[←Ae.out];simp[hc0,hc5])
          have HPT:Hid (Fa xs M s1=((ps++[x]).map PV.e,s')):=ah (by
           rw[HPO.out,if_neg (by rw[hgo.out];decide)];simp)
          have hpl2:Hid ((ps++[x]).length=ps.length+1):=ah (by simp);refine HE.out.mono ?_;rintro e y3 ⟨rfl,nd,rfl⟩;have HE2:=ah (HE1.out nd);have F4:=ah (HP3.out.nS ((Ch.refl _ y2).drewN nd));have c64:(y2.drewN nd).cell? ⟨m,0,none⟩=some (.pointer (some ⟨g,0,none⟩)):=F4.out.r6.cell 0;clear HP3 HE HE1 C6 hc0 hc5 HPO hgo;generalize y2.drewN nd=y5 at *;go_wp2_with fail;refine HE2.out.mono ?_;rintro e y6 ⟨rfl,ne,rfl⟩;have F5:=ah (F4.out.nS ((Ch.refl _ y5).drewN ne));clear F4 HE2 c64 Ae;generalize y5.drewN ne=y1 at *;obtain ⟨qs,hqs⟩:∃qs,qs=ps++[x]:=⟨_,rfl⟩;have xI:=HN2;rw[←hqs]at F5 HPT xI;clear hqs hpl2
          have UY:Hid (dQ b=if bg xs.length s'.1 s'.2=0 then (ss,(qs).map PV.e,0) else ([],[],4)):=ah (by
           rw[HF.out,HFT.out,HPT.out])
          have HE:=ah (fun nd=>su (F5.out.nS ((Ch.refl _ y1).drewN nd)).cur);have HE0:=ah (su F5.out.cur);obtain ⟨v,vp,B7,o1,o2,u1,u2⟩:=F5.out.idx;obtain ⟨As,cs,rfl, -, -⟩:=z04 o1;obtain ⟨Ap,cp,rfl, -, -⟩:=z04 o2;have HB7:=ah B7;have c60:y1.cell? ⟨m,0,none⟩=some (.pointer (some ⟨g,0,none⟩)):=F5.out.r6.cell 0;clear o1 o2 u1 u2 B7;obtain ⟨ce,hce⟩:∃t,t=bg xs.length s'.1 s'.2:=⟨_,rfl⟩;have Ae:=ah hce;by_cases hc0:ce=0
          ·have hfin:Hid (dQ b=(ss,(qs).map PV.e,0)):=ah (by rw[UY.out,←Ae.out,if_pos hc0])
           have hq:(ce !=0)=false:=by rw[hc0];rfl
           rw[←hce]at HE0;clear hce hc0 UY HE Ae;go_wp2_with fail;refine HE0.out.mono ?_;rintro e y2 ⟨rfl,nd,rfl⟩;have F2:=ah (F5.out.nS ((Ch.refl _ y1).drewN nd));have B72:=ah (HB7.out.drewN nd);have d70:(y1.drewN nd).cell? ⟨m+1,0,none⟩=some (.slice As ss.length cs):=B72.out.cell 0;have d71:(y1.drewN nd).cell? ⟨m+1,1,none⟩=some (.slice Ap (qs).length cp):=B72.out.cell 1;have e20:(y1.drewN nd).cell? ⟨w.heap.size,0,none⟩=some (.slice none 0 0):=F2.out.r2.cell 0;have e21:(y1.drewN nd).cell? ⟨w.heap.size,1,none⟩=some (.slice none 0 0):=F2.out.r2.cell 1;have f20:(y1.drewN nd).frozen? ⟨w.heap.size,0,none⟩=false:=F2.out.r2.frozen 0;have f21:(y1.drewN nd).frozen? ⟨w.heap.size,1,none⟩=false:=F2.out.r2.frozen 1;have FIN:=ah (jQ.fin F2.out B72.out hfin.out xI.out);clear HE0 HB7 c60 F2 B72 F5;generalize y1.drewN nd=y3 at *;go_wp2_with fail;obtain ⟨B4,hft⟩:=FIN.out;clear FIN d70 d71 e20 e21 f20 f21;generalize (y3.setCell ⟨w.heap.size,0,none⟩ (.slice As ss.length cs)).setCell ⟨w.heap.size,1,none⟩ (.slice Ap (qs).length cp)=y4 at *;have dd0:y4.cell? ⟨w.heap.size,0,none⟩=some (.slice As ss.length cs):=B4.cell 0;have dd1:y4.cell? ⟨w.heap.size,1,none⟩=some (.slice Ap (qs).length cp):=B4.cell 1;clear B4;refine bodyPost_ret (v:=.tuple #[.agg #[.slice As ss.length cs,.slice Ap (qs).length cp],.int .i64 0]) (by simp[results,Tryz.results27,go_sem,dd0,dd1]) rfl ?_;exact hft
          ·have hfin:Hid (dQ b=([],[],4)):=ah (by rw[UY.out,←Ae.out,if_neg hc0])
           have hq:(ce !=0)=true:=(by simpa using hc0);rw[←hce]at HE0;clear hce hc0 UY HE Ae;go_wp2_with fail;refine HE0.out.mono ?_;rintro e y2 ⟨rfl,nd,rfl⟩;have F2:=ah (F5.out.nS ((Ch.refl _ y1).drewN nd));have e20:(y1.drewN nd).cell? ⟨w.heap.size,0,none⟩=some (.slice none 0 0):=F2.out.r2.cell 0;have e21:(y1.drewN nd).cell? ⟨w.heap.size,1,none⟩=some (.slice none 0 0):=F2.out.r2.cell 1;have f20:(y1.drewN nd).frozen? ⟨w.heap.size,0,none⟩=false:=F2.out.r2.frozen 0;have f21:(y1.drewN nd).frozen? ⟨w.heap.size,1,none⟩=false:=F2.out.r2.frozen 1;have R2:=ah F2.out.r2;have N2:=ah F2.out.nx;clear HE0 HB7 c60 F2 F5;generalize y1.drewN nd=y3 at *;go_wp2_with fail;have B4:=(R2.out.dX 0 (.slice none 0 0)).dX 1 (.slice none 0 0);have C4:Ch (fun i=>i=w.heap.size) y3 ((y3.setCell ⟨w.heap.size,0,none⟩ (.slice none 0 0)).setCell ⟨w.heap.size,1,none⟩ (.slice none 0 0)):=Ch.setCell (Ch.setCell (Ch.refl (· =w.heap.size) _) (p:=⟨w.heap.size,0,none⟩) (fun _=>rfl) _) (p:=⟨w.heap.size,1,none⟩) (fun _=>rfl) _;generalize (y3.setCell ⟨w.heap.size,0,none⟩ (.slice none 0 0)).setCell ⟨w.heap.size,1,none⟩ (.slice none 0 0)=y4 at *;have dd0:y4.cell? ⟨w.heap.size,0,none⟩=some (.slice none 0 0):=B4.cell 0;have dd1:y4.cell? ⟨w.heap.size,1,none⟩=some (.slice none 0 0):=B4.cell 1;have N4:=ah (N2.out.trans C4 (fun i hi e=>by omega));clear e20 e21 f20 f21 B4 C4 R2 N2;refine bodyPost_ret (v:=.tuple #[.agg #[.slice none 0 0,.slice none 0 0],.int .i64 4]) (by simp[results,Tryz.results27,go_sem,dd0,dd1]) rfl ?_;exact z52.bad hfin.out N4.out
     ·have hkk:k=M:=by omega
      have HPT:Hid (Fa xs M s1=(ps.map PV.e,s)):=ah (by
       have:=HS.out;rw[hkk,Nat.sub_self]at this;rw[this];simp[Fa])
      clear HS hpl c60 hkk;obtain ⟨y1,rfl⟩:∃y1:World,y1=w6:=⟨_,rfl⟩
      have UY:Hid (dQ b=if bg xs.length s.1 s.2=0 then (ss,(ps).map PV.e,0) else ([],[],4)):=ah (by
       rw[HF.out,HFT.out,HPT.out])
      have HE:=ah (fun nd=>su (HI.out.nS ((Ch.refl _ y1).drewN nd)).cur);have HE0:=ah (su HI.out.cur);obtain ⟨v,vp,B7,o1,o2,u1,u2⟩:=HI.out.idx;obtain ⟨As,cs,rfl, -, -⟩:=z04 o1;obtain ⟨Ap,cp,rfl, -, -⟩:=z04 o2;have HB7:=ah B7;have c60:y1.cell? ⟨m,0,none⟩=some (.pointer (some ⟨g,0,none⟩)):=HI.out.r6.cell 0;clear o1 o2 u1 u2 B7;obtain ⟨ce,hce⟩:∃t,t=bg xs.length s.1 s.2:=⟨_,rfl⟩;have Ae:=ah hce;by_cases hc0:ce=0
      ·have hfin:Hid (dQ b=(ss,(ps).map PV.e,0)):=ah (by rw[UY.out,←Ae.out,if_pos hc0])
       have hq:(ce !=0)=false:=by rw[hc0];rfl
       rw[←hce]at HE0;clear hce hc0 UY HE Ae;go_wp2_with fail;refine HE0.out.mono ?_;rintro e y2 ⟨rfl,nd,rfl⟩;have F2:=ah (HI.out.nS ((Ch.refl _ y1).drewN nd));have B72:=ah (HB7.out.drewN nd);have d70:(y1.drewN nd).cell? ⟨m+1,0,none⟩=some (.slice As ss.length cs):=B72.out.cell 0;have d71:(y1.drewN nd).cell? ⟨m+1,1,none⟩=some (.slice Ap (ps).length cp):=B72.out.cell 1;have e20:(y1.drewN nd).cell? ⟨w.heap.size,0,none⟩=some (.slice none 0 0):=F2.out.r2.cell 0;have e21:(y1.drewN nd).cell? ⟨w.heap.size,1,none⟩=some (.slice none 0 0):=F2.out.r2.cell 1;have f20:(y1.drewN nd).frozen? ⟨w.heap.size,0,none⟩=false:=F2.out.r2.frozen 0;have f21:(y1.drewN nd).frozen? ⟨w.heap.size,1,none⟩=false:=F2.out.r2.frozen 1;have FIN:=ah (jQ.fin F2.out B72.out hfin.out xI.out);clear HE0 HB7 c60 F2 B72 HI;generalize y1.drewN nd=y3 at *;go_wp2_with fail;obtain ⟨B4,hft⟩:=FIN.out;clear FIN d70 d71 e20 e21 f20 f21;generalize (y3.setCell ⟨w.heap.size,0,none⟩ (.slice As ss.length cs)).setCell ⟨w.heap.size,1,none⟩ (.slice Ap (ps).length cp)=y4 at *;have dd0:y4.cell? ⟨w.heap.size,0,none⟩=some (.slice As ss.length cs):=B4.cell 0;have dd1:y4.cell? ⟨w.heap.size,1,none⟩=some (.slice Ap (ps).length cp):=B4.cell 1;clear B4;refine bodyPost_ret (v:=.tuple #[.agg #[.slice As ss.length cs,.slice Ap (ps).length cp],.int .i64 0]) (by simp[results,Tryz.results27,go_sem,dd0,dd1]) rfl ?_;exact hft
      ·have hfin:Hid (dQ b=([],[],4)):=ah (by rw[UY.out,←Ae.out,if_neg hc0])
       have hq:(ce !=0)=true:=(by simpa using hc0);rw[←hce]at HE0;clear hce hc0 UY HE Ae;go_wp2_with fail;refine HE0.out.mono ?_;rintro e y2 ⟨rfl,nd,rfl⟩;have F2:=ah (HI.out.nS ((Ch.refl _ y1).drewN nd));have e20:(y1.drewN nd).cell? ⟨w.heap.size,0,none⟩=some (.slice none 0 0):=F2.out.r2.cell 0;have e21:(y1.drewN nd).cell? ⟨w.heap.size,1,none⟩=some (.slice none 0 0):=F2.out.r2.cell 1;have f20:(y1.drewN nd).frozen? ⟨w.heap.size,0,none⟩=false:=F2.out.r2.frozen 0;have f21:(y1.drewN nd).frozen? ⟨w.heap.size,1,none⟩=false:=F2.out.r2.frozen 1;have R2:=ah F2.out.r2;have N2:=ah F2.out.nx;clear HE0 HB7 c60 F2 HI;generalize y1.drewN nd=y3 at *;go_wp2_with fail;have B4:=(R2.out.dX 0 (.slice none 0 0)).dX 1 (.slice none 0 0);have C4:Ch (fun i=>i=w.heap.size) y3 ((y3.setCell ⟨w.heap.size,0,none⟩ (.slice none 0 0)).setCell ⟨w.heap.size,1,none⟩ (.slice none 0 0)):=Ch.setCell (Ch.setCell (Ch.refl (· =w.heap.size) _) (p:=⟨w.heap.size,0,none⟩) (fun _=>rfl) _) (p:=⟨w.heap.size,1,none⟩) (fun _=>rfl) _;generalize (y3.setCell ⟨w.heap.size,0,none⟩ (.slice none 0 0)).setCell ⟨w.heap.size,1,none⟩ (.slice none 0 0)=y4 at *;have dd0:y4.cell? ⟨w.heap.size,0,none⟩=some (.slice none 0 0):=B4.cell 0;have dd1:y4.cell? ⟨w.heap.size,1,none⟩=some (.slice none 0 0):=B4.cell 1;have N4:=ah (N2.out.trans C4 (fun i hi e=>by omega));clear e20 e21 f20 f21 B4 C4 R2 N2;refine bodyPost_ret (v:=.tuple #[.agg #[.slice none 0 0,.slice none 0 0],.int .i64 4]) (by simp[results,Tryz.results27,go_sem,dd0,dd1]) rfl ?_;exact z52.bad hfin.out N4.out
 ·obtain ⟨er,her⟩:∃er:Int,er=if b.length<4 then 3 else 6:=⟨_,rfl⟩
  have h36:er=3∨er=6:=by rw[her];split<;>simp
  have HF:Hid (dQ b=([],[],er)):=ah (by unfold dQ;rw[if_neg hop,←her]);have HER:=ah her;clear her;have hb2:=B2.out.cell 0;have hneq:(er !=0)=true:=by rcases h36 with rfl|rfl<;>rfl
  go_enter Tryz.func27,Tryz.ntmps27;go_wp2_with fail;with_reducible refine HOP.out.mono ?_
  rintro e w1 ⟨-,hk⟩;obtain ⟨rfl,n1⟩:=hk hop;rw[←HER.out];have B3:=ah (B2.out.nx n1);have N1:=ah (HNA.out.trans n1 (fun _ _ hf=>hf));have c0:w1.cell? ⟨w.heap.size,0,none⟩=some (.slice none 0 0):=B3.out.cell 0;have c1:w1.cell? ⟨w.heap.size,1,none⟩=some (.slice none 0 0):=B3.out.cell 1;have f0:w1.frozen? ⟨w.heap.size,0,none⟩=false:=B3.out.frozen 0;have f1:w1.frozen? ⟨w.heap.size,1,none⟩=false:=B3.out.frozen 1;clear hk n1 HOP hb2 h36;go_wp2_with fail;have B4:=(B3.out.dX 0 (.slice none 0 0)).dX 1 (.slice none 0 0);have C4:Ch (fun i=>i=w.heap.size) w1 ((w1.setCell ⟨w.heap.size,0,none⟩ (.slice none 0 0)).setCell ⟨w.heap.size,1,none⟩ (.slice none 0 0)):=Ch.setCell (Ch.setCell (Ch.refl (· =w.heap.size) _) (p:=⟨w.heap.size,0,none⟩) (fun _=>rfl) _) (p:=⟨w.heap.size,1,none⟩) (fun _=>rfl) _;generalize (w1.setCell ⟨w.heap.size,0,none⟩ (.slice none 0 0)).setCell ⟨w.heap.size,1,none⟩ (.slice none 0 0)=w4 at *;have d0:w4.cell? ⟨w.heap.size,0,none⟩=some (.slice none 0 0):=B4.cell 0;have d1:w4.cell? ⟨w.heap.size,1,none⟩=some (.slice none 0 0):=B4.cell 1;have N4:=ah (N1.out.trans C4 (fun i hi e=>by omega));clear c0 c1 f0 f1 B4 C4 B3 N1;refine bodyPost_ret (v:=.tuple #[.agg #[.slice none 0 0,.slice none 0 0],.int .i64 er]) (by simp[results,Tryz.results27,go_sem,d0,d1]) rfl ?_;exact z52.bad HF.out N4.out
end Go.Proofs.YtpakjclpjcngmaaGreat

/- Contracts and plain laws that the last text rests on. Conditions: each theorem states its own. -/
import Derived.Test.YtpakjclpjcngmaaGreatKbQ37
import Derived.Test.YtpakjclpjcngmaaGreatKbQ35
import Derived.Test.YtpakjclpjcngmaaGreatKbPcR11J
import Derived.Test.YtpakjclpjcngmaaGreatKbQ34
import Derived.Test.YtpakjclpjcngmaaGreatKbQ31
import Derived.Test.YtpakjclpjcngmaaGreatKbQ26
import Derived.Test.YtpakjclpjcngmaaGreatKbQ25
set_option maxRecDepth 100000
set_option maxHeartbeats 64000000
set_option linter.unusedVariables false
namespace Go.Proofs.YtpakjclpjcngmaaGreat
open Go.RowKit
structure GV where
 A:Option Addr
 c:Nat
 l:List RV
def GV.v (g:GV):Value:=.slice g.A g.l.length g.c
def GV.rows (g:GV):List aA:=g.l.map fun x=>x.row
structure GV.ok (w:World) (D:Nat->Prop) (g:GV):Prop where
 rd:Rd w D 9 g.A g.l.length (iE g.l)
 row:∀x∈g.l,x.ok w D
 grp:dM g.rows
 ne:0<g.l.length
def Ae (A:Option Addr) (c per:Nat) (l:List RV) (m:Nat):List GV:=(List.range m).map fun k=>⟨A.map (·.add (k * per * 9)),c-k * per,kU l per k⟩
theorem Bc (A:Option Addr) (c per:Nat) (l:List RV):∀m,cutV A c per l.length m=(Ae A c per l m).map GV.v
 |0=>rfl
 |m+1=>by
  unfold Ae;rw[cutV,Bc A c per l m,List.range_succ,List.map_append,List.map_append];unfold Ae;congr 1
  simp only[List.map_cons,List.map_nil,GV.v,kU,List.length_take,List.length_drop]
theorem OA (A:Option Addr) (c per:Nat) (l:List RV):(Ae A c per l ((l.length+per-1) / per)).map GV.rows=bT per (l.map fun x=>x.row):=by
 unfold Ae bT GV.rows;rw[List.map_map,List.length_map];refine List.map_congr_left fun k _=>?_;simp only[Function.comp,kU,List.map_take,List.map_drop]
theorem XH {w:World} {D:Nat->Prop} {A:Option Addr} {c per:Nat} {l:List RV} (h:Rd w D 9 A l.length (iE l)) (hk:∀x∈l,x.ok w D) (hp:0<per) (hp2:per<=256) (hg:∀x∈l,r_ x.row):∀g∈Ae A c per l ((l.length+per-1) / per),g.ok w D:=fun g hgm=>by
 obtain ⟨k,hkm,rfl⟩:=List.mem_map.1 hgm;have hlt:=(YA hp).1 (List.mem_range.1 hkm);have hr:=qw h rfl per k (by omega);have hm:∀x∈kU l per k,x∈l:=fun x hx=>List.mem_of_mem_drop (List.mem_of_mem_take hx);have hl:=z2G l per k;refine ⟨?_,fun x hx=>hk x (hm x hx),⟨?_,fun x hx=>?_⟩,?_⟩
 ·show Rd w D 9 _ (kU l per k).length _
  rw[hl];exact hr
 ·simp only[GV.rows,List.length_map,kU,List.length_take]
  omega
 ·obtain ⟨y,hy,rfl⟩:=List.mem_map.1 hx
  exact hg y (hm y hy)
 ·simp only[kU,List.length_take,List.length_drop]
  omega
theorem dM.Wi {l:List aA} (h:dM l):(aQ (l.map aT)).length<=65535:=by
 have hl:=h.few
 have:=z4n (l:=l.map aT) (by rw[List.length_map];exact hl) fun s hs=>by
  obtain ⟨x, -,rfl⟩:=List.mem_map.1 hs;exact z11 x
 rw[List.length_map]at this;omega
theorem dM.Wn {l:List aA} (h:dM l):(aU (l.map fun x=>x.text)).length<=65535:=by
 have hl:=h.few
 have:=z4r (l:=l.map fun x=>x.text) (by rw[List.length_map];exact hl) fun s hs=>by
  obtain ⟨x,hx,rfl⟩:=List.mem_map.1 hs;exact (Le (h.row x hx).1).2.2.2.2.2.2
 rw[List.length_map]at this;omega
theorem GV.ok.nx {w w':World} {D:Nat->Prop} {g:GV} (h:g.ok w D) (c:Nx w w'):g.ok w' D:=
 ⟨h.rd.nx (by decide) c,fun x hx=>(h.row x hx).ch c (fun _ _ _ hf=>hf) (fun _ hd=>hd),h.grp,h.ne⟩
theorem pX {w:World} {D:Nat->Prop} {g:GV} (h:g.ok w D):
 Calls Tryz.prog 53 #[g.v] w fun e w'=>∃v,e=.returned v/\ak w w' 5 1 v (aF g.rows).length (bl (aF g.rows)):=
 Ar h.rd rfl h.grp h.row h.grp.Wi h.grp.Wn
def IxTo (w:World) (R:List (List aA)) (e:Ending) (w':World):Prop:=
 ∃vs vp ps b5,e=.returned (.agg #[vs,vp])/\kR w w' b5 w'.heap.size vs vp (iw 5 R) ps/\ps.map PV.e=z13 R/\(∀x∈ps,∀g∈x.gs,0<=g)
theorem NZ (w:World):kS w (((w.alloc (.cells #[.slice none 0 0,.slice none 0 0] 100)).alloc (.cells #[.slice none 0 0,.slice none 0 0] 100)).alloc (.cells #[] 9)) w.heap.size (.slice none 0 0) (.slice none 0 0) [] [] (.slice (some ⟨w.heap.size+1+1,0,none⟩) 0 0) []:=by
 have n1:Nx w (w.alloc (.cells #[.slice none 0 0,.slice none 0 0] 100)):=(Ch.refl _ w).alloc _;have n2:Nx w ((w.alloc (.cells #[.slice none 0 0,.slice none 0 0] 100)).alloc (.cells #[.slice none 0 0,.slice none 0 0] 100)):=n1.alloc _;have B0:=((aG.new w 100 #[.slice none 0 0,.slice none 0 0]).alloc (.cells #[.slice none 0 0,.slice none 0 0] 100)).alloc (.cells #[] 9);have B1:=(aG.new (w.alloc (.cells #[.slice none 0 0,.slice none 0 0] 100)) 100 #[.slice none 0 0,.slice none 0 0]).alloc (.cells #[] 9);have o:=ak.lit w _ 9 n2 1;simp only[World.size_alloc]at B1 o;refine ⟨⟨B1,ak.nil _ _ _ _ o.nx,ak.nil _ _ _ _ o.nx,by simp,?_⟩,o,B0,Nat.le_refl _⟩;refine ⟨by omega,by simp,Nat.le_refl _,fun k hk=>?_,fun k hk=>?_⟩<;>simp[Value.ownBlock]at hk
theorem zQ {w:World} {D:Nat->Prop} {G:Option Addr} {m c:Nat} {gs:List GV} (hr:Rd w D 1 G m (gs.map GV.v)) (hm:gs.length=m) (hm2:m<=2048) (hk:∀g∈gs,g.ok w D) (hn:(gs.map GV.rows).flatten.length<=2048):
 Calls Tryz.prog 52 #[.slice G m c,.int .i64 5] w (IxTo w (gs.map GV.rows)):=by
 obtain ⟨R,hR⟩:∃R,R=gs.map GV.rows:=⟨_,rfl⟩;have hRl:R.length=m:=by rw[hR,List.length_map,hm]
 have Yn:=ah (fun k (h1:k<gs.length) (h2:k<R.length)=>(by rw[List.getElem_of_eq hR h2,List.getElem_map]:R[k]=gs[k].rows))
 have Zt:Hid (∀g∈R,dM g):=ah (fun g hg=>by
  rw[hR]at hg;obtain ⟨x,hx,rfl⟩:=List.mem_map.1 hg;exact (hk x hx).grp)
 rw[←hR]at hn ⊢;have jB:=ah hRl;have HR:=ah (fun (w':World) (c':Nx w w')=>hr.nx (by decide) c');have HK:=ah (fun (w':World) (c':Nx w w') (g:GV) (hg:g∈gs)=>(hk g hg).nx c');have HM:=ah hm;have HN:=ah hn;have I0:=ah (NZ w);clear hr hm hk hn hR hRl;go_enter Tryz.func52,Tryz.ntmps52;go_wp2_with fail;go_loopw [1,6,24] (fun s1 s6 i wr=>∃(k:Nat) (vs:Value) (ws:List ByteArray),k<=m/\i=.int .i64 (k:Int)/\s1=.int .i64 ((5+(aN (R.take k)).length:Nat):Int)/\Hid ((aN (R.take k)).length<=1000000 * k)/\Hid (kS w wr w.heap.size vs (.slice none 0 0) (iw 5 (R.take k)) [] s6 ws)/\Hid (ws=(R.take k).flatten.map aT)) (fun _ _ i _=>m-(intOf i).toNat)
 case atStart=>exact ⟨0,_,_,Nat.zero_le _,rfl,rfl,ah (Nat.le_refl 0),I0,ah rfl⟩
 case round=>
  clear I0;obtain ⟨w4,rfl⟩:∃w4:World,w4=wr:=⟨_,rfl⟩;obtain ⟨k,vs,ws,hkm,rfl,rfl,Yv,HI,Yi⟩:=hrel;have N4:=ah HI.out.al.nx;by_cases hlt:k<m
  ·--A< loop1
   have hkg:k<gs.length:=by have:=HM.out;omega
   have hkR:k<R.length:=by have:=jB.out;omega
   obtain ⟨gd,u,rfl, -,hu,hc⟩:=(HR.out w4 N4.out).at_ hlt;rw[List.getElem?_map,List.getElem?_eq_getElem hkg]at hu;have HG:=ah (fun (W':World) (c':Nx w W')=>HK.out W' c' _ (List.getElem_mem hkg));have HX:=Yn.out k hkg hkR;generalize gs[k]=g at hu HG HX;obtain ⟨Ag,cg,l⟩:=g;simp only[Option.map_some,GV.v]at hu;injection hu with hu;subst hu;have CO:=(HG.out w (Ch.refl _ w)).ne;simp only at CO;obtain ⟨ca,rfl, -, -⟩:=(HG.out w (Ch.refl _ w)).rd.2 CO;have Cb:=Zt.out _ (List.getElem_mem hkR);have hgl:=z20 Cb;have HT:=ah (List.take_succ_eq_append_getElem hkR);have hl256:l.length<=256:=by have:=Cb.few;rw[HX]at this;simpa [GV.rows]using this
   obtain ⟨Gr,hGr⟩:∃t,t=R[k]:=⟨_,rfl⟩;rw[←hGr]at Cb hgl HT HX;have abG:Gr.length=l.length:=by rw[HX];simp[GV.rows]
   have UN:=ah (fun (W':World) (c':Nx w W')=>(by
    have h:=pX (HG.out W' c');rw[←HX]at h;exact h:Calls Tryz.prog 53 #[.slice (some ca) l.length cg] W' fun e w''=>∃v,e=.returned v/\ak W' w'' 5 1 v (aF Gr).length (bl (aF Gr))))
   have HT1:=ah (fun (W':World) (c':Nx w W')=>(by
    have h:=z5a (HG.out W' c').rd rfl CO ca rfl;rw[show (l.map fun x=>x.row)=Gr from HX.symm]at h;exact h:W'.cell? ⟨ca.block,ca.off+1,none⟩=some (.int .i64 (FQ Gr))/\W'.cell? ⟨(ca.add ((l.length-1) * 9)).block,(ca.add ((l.length-1) * 9)).off+1,none⟩=some (.int .i64 (lastT Gr))))
   have HXH:=ah HX;have Yu:=ah Cb;have Yq:=ah abG;have hbl:=Yv.out;clear HX Cb abG hGr Yv;go_wp2_with fail;refine (UN.out w4 N4.out).mono ?_;rintro e w5 ⟨v5,rfl,o5⟩;obtain ⟨A5,c5,rfl, -, -⟩:=o5.form;have N5:=ah (N4.out.tr o5.nx);have I5:=ah (HI.out.nx o5.nx);clear o5 HI hc;obtain ⟨f0,f1⟩:=HT1.out w5 N5.out;obtain ⟨t0,ht0⟩:∃t,t=FQ Gr:=⟨_,rfl⟩;obtain ⟨t1,ht1⟩:∃t,t=lastT Gr:=⟨_,rfl⟩;rw[←ht0]at f0;rw[←ht1]at f1;have HT0:=ah ht0;have HT2:=ah ht1;clear ht0 ht1;obtain ⟨B,hB⟩:∃t,t=(aN (R.take k)).length:=⟨_,rfl⟩;obtain ⟨z,hz⟩:∃t,t=(aF Gr).length:=⟨_,rfl⟩;have HZ:=ah hz;have HB:=ah hB;obtain ⟨ss,hss⟩:∃ss,ss=iw 5 (R.take k):=⟨_,rfl⟩;have qN:=ah hss;have zU:ss.length=k:=by rw[hss,FU,List.length_take];omega
   rw[←hss]at I5;rw[←hB]at hbl;rw[←hz]at hgl;rw[←hB,←hz];clear hB hz hss;have kq:IntKind.i64.wrap ((l.length:Int)-1)=((l.length-1:Nat):Int):=by rw[IntWalk.i64_in _ (by omega)];omega
   obtain ⟨q,hq⟩:∃q,l.length=q:=⟨_,rfl⟩;have HQ:=ah hq;rw[hq]at hl256 CO f1 kq UN Yq ⊢;clear hq HT1;have hqq:q-1<q:=(by omega);have hk3:ss.length<=2048:=(by omega);have HSL:=ah zU;clear zU;obtain ⟨As,cs,rfl, -, -⟩:=I5.out.ix.os.form;have b5:=I5.out.ix.blk;have b20:w5.cell? ⟨w.heap.size+1,0,none⟩=some (.slice As ss.length cs):=b5.cell 0;obtain ⟨i0,hi0,hz0,hz1,hz2⟩:=info_parts Tryz.JG;go_wp2_with fail;refine Lh (fun w'=>w'.cell? ⟨w.heap.size+1,0,none⟩=some (.slice As ss.length cs)/\w'.cell? ⟨ca.block,ca.off+1,none⟩=some (.int .i64 t0)/\w'.cell? ⟨(ca.add ((q-1) * 9)).block,(ca.add ((q-1) * 9)).off+1,none⟩=some (.int .i64 t1)) (fun i=>decide (21<=i)) rfl ⟨b20,f0,f1⟩ (fun hS0=>?_);refine z00 (i:=0) (oi:=_) (v:=?_) rfl (fun _ _ _ h=>h) (Or.inl ⟨by rfl,?_⟩) ?_;rotate_left
   ·(intro w hSw;(try dsimp only at hSw);go_split_ands;go_simp;try with_reducible rfl)
   try simp only[Act.put,dH]
   refine z00 (i:=1) (oi:=_) (v:=?_) rfl (fun _ _ _ h=>h) (Or.inl ⟨by rfl,?_⟩) ?_;rotate_left
   ·(intro w hSw;(try dsimp only at hSw);go_split_ands;go_simp;try with_reducible rfl)
   try simp only[Act.put]
   refine z00 (i:=2) (oi:=_) (v:=?_) rfl (fun _ _ _ h=>h) (Or.inl ⟨by rfl,?_⟩) ?_;rotate_left
   ·(intro w hSw;(try dsimp only at hSw);go_split_ands;go_simp;try with_reducible rfl)
   try simp only[Act.put]
   refine z00 (i:=3) (oi:=_) (v:=?_) rfl (fun _ _ _ h=>h) (Or.inl ⟨by rfl,?_⟩) ?_;rotate_left
   ·(intro w hSw;(try dsimp only at hSw);go_split_ands;go_simp;try with_reducible rfl)
   try simp only[Act.put]
   refine z00 (i:=4) (oi:=_) (v:=?_) rfl (fun _ _ _ h=>h) (Or.inl ⟨by rfl,?_⟩) ?_;rotate_left
   ·(intro w hSw;(try dsimp only at hSw);go_split_ands;go_simp;try with_reducible rfl)
   try simp only[Act.put]
   refine z00 (i:=5) (oi:=_) (v:=?_) rfl (fun _ _ _ h=>h) (Or.inl ⟨by rfl,?_⟩) ?_;rotate_left
   ·(intro w hSw;(try dsimp only at hSw);go_split_ands;go_simp;try with_reducible rfl)
   try simp only[Act.put]
   refine z00 (i:=6) (oi:=_) (v:=?_) rfl (fun _ _ _ h=>h) (Or.inl ⟨by rfl,?_⟩) ?_;rotate_left
   ·(intro w hSw;(try dsimp only at hSw);go_split_ands;go_simp;try with_reducible rfl)
   try simp only[Act.put]
   refine z00 (i:=7) (oi:=_) (v:=?_) rfl (fun _ _ _ h=>h) (Or.inl ⟨by rfl,?_⟩) ?_;rotate_left
   ·(intro w hSw;(try dsimp only at hSw);go_split_ands;go_simp;try with_reducible rfl)
   try simp only[Act.put]
   refine z00 (i:=8) (oi:=_) (v:=?_) rfl (fun _ _ _ h=>h) (Or.inl ⟨by rfl,?_⟩) ?_;rotate_left
   ·(intro w hSw;(try dsimp only at hSw);go_split_ands;go_simp;try with_reducible rfl)
   try simp only[Act.put]
   refine z00 (i:=9) (oi:=_) (v:=?_) rfl (fun _ _ _ h=>h) (Or.inl ⟨by rfl,?_⟩) ?_;rotate_left
   ·(intro w hSw;(try dsimp only at hSw);go_split_ands;go_simp;try with_reducible rfl)
   try simp only[Act.put]
   refine z00 (i:=10) (oi:=_) (v:=?_) rfl (fun _ _ _ h=>h) (Or.inl ⟨by rfl,?_⟩) ?_;rotate_left
   ·(intro w hSw;(try dsimp only at hSw);go_split_ands;go_simp;try with_reducible rfl)
   try simp only[Act.put]
   refine z00 (i:=11) (oi:=_) (v:=?_) rfl (fun _ _ _ h=>h) (Or.inl ⟨by rfl,?_⟩) ?_;rotate_left
   ·(intro w hSw;(try dsimp only at hSw);go_split_ands;go_simp;try with_reducible rfl)
   try simp only[Act.put]
   refine z00 (i:=12) (oi:=_) (v:=?_) rfl (fun _ _ _ h=>h) (Or.inl ⟨by rfl,?_⟩) ?_;rotate_left
   ·(intro w hSw;(try dsimp only at hSw);go_split_ands;go_simp;try with_reducible rfl)
   try simp only[Act.put]
   refine z00 (i:=13) (oi:=_) (v:=?_) rfl (fun _ _ _ h=>h) (Or.inl ⟨by rfl,?_⟩) ?_;rotate_left
   ·(intro w hSw;(try dsimp only at hSw);go_split_ands;go_simp;try with_reducible rfl)
   try simp only[Act.put]
   refine z00 (i:=14) (oi:=_) (v:=?_) rfl (fun _ _ _ h=>h) (Or.inl ⟨by rfl,?_⟩) ?_;rotate_left
   ·(intro w hSw;(try dsimp only at hSw);go_split_ands;go_simp;try with_reducible rfl)
   try simp only[Act.put]
   refine z00 (i:=15) (oi:=_) (v:=?_) rfl (fun _ _ _ h=>h) (Or.inl ⟨by rfl,?_⟩) ?_;rotate_left
   ·(intro w hSw;(try dsimp only at hSw);go_split_ands;go_simp;try with_reducible rfl)
   try simp only[Act.put]
   refine z00 (i:=16) (oi:=_) (v:=?_) rfl (fun _ _ _ h=>h) (Or.inl ⟨by rfl,?_⟩) ?_;rotate_left
   ·(intro w hSw;(try dsimp only at hSw);go_split_ands;go_simp;try with_reducible rfl)
   try simp only[Act.put]
   refine z00 (i:=17) (oi:=_) (v:=?_) rfl (fun _ _ _ h=>h) (Or.inl ⟨by rfl,?_⟩) ?_;rotate_left
   ·(intro w hSw;(try dsimp only at hSw);go_split_ands;go_simp;try with_reducible rfl)
   try simp only[Act.put]
   refine z00 (i:=18) (oi:=_) (v:=?_) rfl (fun _ _ _ h=>h) (Or.inl ⟨by rfl,?_⟩) ?_;rotate_left
   ·(intro w hSw;(try dsimp only at hSw);go_split_ands;go_simp;try with_reducible rfl)
   try simp only[Act.put]
   refine z00 (i:=19) (oi:=_) (v:=?_) rfl (fun _ _ _ h=>h) (Or.inl ⟨by rfl,?_⟩) ?_;rotate_left
   ·(intro w hSw;(try dsimp only at hSw);go_split_ands;go_simp;try with_reducible rfl)
   try simp only[Act.put]
   refine z02 (rs:=[20]) (by kernel_rfl) (by simp) (z01.cons (o:=_) rfl (fun K hK=>?_) z01.nil);have NA:Nx w5 (w5.drew.alloc (.cells #[.int .i64 ((5+B:Nat):Int),.int .i64 (z:Int),.int .i64 (q:Int),.int .i64 t0,.int .i64 t1] 110)):=((Ch.refl (fun _=>False) w5).drew).alloc _;have NA2:=ah NA;have hS2:(fun w'=>w'.cell? ⟨w.heap.size+1,0,none⟩=some (.slice As ss.length cs)/\w'.cell? ⟨ca.block,ca.off+1,none⟩=some (.int .i64 t0)/\w'.cell? ⟨(ca.add ((q-1) * 9)).block,(ca.add ((q-1) * 9)).off+1,none⟩=some (.int .i64 t1)) (w5.drew.alloc (.cells #[.int .i64 ((5+B:Nat):Int),.int .i64 (z:Int),.int .i64 (q:Int),.int .i64 t0,.int .i64 t1] 110)):=⟨(b5.nx NA).cell 0,(NA.cell (p:=⟨ca.block,ca.off+1,none⟩) (World.block_lt_of_cell? w5 _ f0)).trans f0,(NA.cell (p:=⟨(ca.add ((q-1) * 9)).block,(ca.add ((q-1) * 9)).off+1,none⟩) (World.block_lt_of_cell? w5 _ f1)).trans f1⟩;have HRL5:=ah (Rd.aaj w5.drew (⟨((5+B:Nat):Int),(z:Int),(q:Int),t0,t1⟩:aK));have I6:=ah (I5.out.nx NA);have hw6:w.heap.size<=(w5.drew.alloc (.cells #[.int .i64 ((5+B:Nat):Int),.int .i64 (z:Int),.int .i64 (q:Int),.int .i64 t0,.int .i64 t1] 110)).heap.size:=I6.out.al.nx.size;clear NA;go_simp;refine hK.out _ _ (fun _=>hS2) (fun au=>?_);have hHeld:=au (by decide);clear hK K au
   try simp only[Act.put,dH,dF,dG]
   refine z02 (rs:=[21]) (by kernel_rfl) (by simp) (z01.cons (o:=_) rfl (fun K hK=>?_) z01.nil);refine Ru _ rfl (.tmp 32) (.tmp 51) _ rfl w.heap.size 110 i0 _ 5 40 Tryz.underlying97 hi0 hz0 hz1 hz2 rfl (by omega) (.slice As ss.length cs) ss.length (spl ss) rfl I6.out.ix.os.own _ (some ⟨w5.heap.size,0,none⟩) 1 1 _ rfl HRL5.out (Mc _) (by simp only[maxLen];omega) (by omega) hw6 ?_;intro v7 w7 jS gr7 at7;obtain ⟨o7,m7⟩:=QJ I6.out.ix.os (Ch.refl _ _) jS gr7 at7;obtain ⟨A7,c7,rfl, -, -⟩:=o7.form;have I8:=ah (kS.span I6.out o7 m7);have b8:=I6.out.aaR m7;have b2c:w7.cell? ⟨w.heap.size+1,0,none⟩=some (.slice As ss.length cs):=b8.cell 0;have b2f:w7.frozen? ⟨w.heap.size+1,0,none⟩=false:=b8.frozen 0;clear jS gr7 at7 o7 m7 hS2 b8 b5 I6 I5;refine hK.out _ _ (fun h=>absurd h (by decide)) (fun au=>?_);clear hK K au
   try simp only[Act.put,dH]
   refine z02 (rs:=[22]) (by kernel_rfl) (by simp) (z01.cons (o:=_) rfl (fun K hK=>?_) z01.nil);go_simp;refine hK.out _ _ (fun h=>absurd h (by decide)) (fun au=>?_);clear hK K au
   try simp only[Act.put,dH,dF,dG]
   refine z02 (rs:=[23]) (by kernel_rfl) (by simp) (z01.cons (o:=_) rfl (fun K hK=>?_) z01.nil);go_simp;refine hK.out _ _ (fun h=>absurd h (by decide)) (fun au=>?_);clear hK K au b2c b2f hHeld
   try simp only[Act.put,dH,dF,dG]
   refine CX (by kernel_rfl) ?_ _;generalize hw8:w7.setCell ⟨w.heap.size+1,0,none⟩ (.slice A7 (ss.length+1) c7)=w8 at *;clear hw8
   have Yj:Hid (((R.take k).flatten.map aT).length<=2048):=ah (by
    have h1:=HN.out;rw[←List.take_append_drop k R,List.flatten_append,List.length_append]at h1;rw[List.length_map];omega)
   go_wp2_with fail;go_loopw [6,59] (fun s6 i wr=>∃(j:Nat) (ws:List ByteArray),j<=q/\i=.int .i64 (j:Int)/\Hid (kS w wr w.heap.size (.slice A7 (ss.length+1) c7) (.slice none 0 0) (ss++[(⟨((5+B:Nat):Int),(z:Int),(q:Int),t0,t1⟩:aK)]) [] s6 ws)/\Hid (ws=(R.take k).flatten.map aT++(Gr.take j).map aT)) (fun _ i _=>q-(intOf i).toNat)
   case atStart=>exact ⟨0,ws,Nat.zero_le _,rfl,I8,ah (by rw[Yi.out];simp)⟩
   case round=>
    clear I8 Yi;obtain ⟨w9,rfl⟩:∃w9:World,w9=wr:=⟨_,rfl⟩;obtain ⟨j,ws2,hjq,rfl,HI,Yh⟩:=hrel;have N9:=ah HI.out.al.nx;by_cases hjt:j<q
    ·have hjl:j<l.length:=by have:=HQ.out;omega
     have hjG:j<Gr.length:=by have:=Yq.out;omega
     have hrd:Rd w9 D 9 (some ca) l.length (iE l):=(HG.out w9 N9.out).rd;obtain ⟨ad,e1, -,p0,p1,p2,p3,p4,p5,p6,p7,p8⟩:=z18 hrd hjl;injection e1 with e1;subst e1;have hok:=fun (W':World) (c':Nx w W')=>(HG.out W' c').row _ (List.getElem_mem hjl)
     have HX0:Gr[j]=l[j].row:=by
      rw[List.getElem_of_eq HXH.out hjG];simp[GV.rows]
     have Qw:=ou (Yu.out.row Gr[j] (List.getElem_mem hjG));have HTJ:=ah (List.take_succ_eq_append_getElem hjG)
     have hwl:ws2.length<=2560:=by
      have h1:=Yj.out;have h2:=Yh.out;have:=Nat.min_le_left j Gr.length;simp only[h2,List.length_append,List.length_map,List.length_take]at h1 ⊢;omega
     rw[HX0]at Qw HTJ;clear hrd HX0;generalize l[j]=x at *;obtain ⟨⟨kind,time,aB,text,value,null,maker,seq,place⟩,A1,c1⟩:=x;simp only at p0 p1 p2 p3 p4 p5 p6 p7 p8 Qw HTJ;obtain ⟨h4,hls,htx⟩:=Qw;have HB:=ah (aG.new w9 58 #[.int .i64 kind,.int .i64 time,.slice A1 aB.length c1,.string text,.int .i64 value,.bool null,.int .i64 maker,.int .i64 seq,.int .i64 place]);have NA:=ah ((Ch.refl (fun _=>False) w9).alloc (.cells #[.int .i64 kind,.int .i64 time,.slice A1 aB.length c1,.string text,.int .i64 value,.bool null,.int .i64 maker,.int .i64 seq,.int .i64 place] 58))
     have HT:=ah (by
      have h:=z4s (c:=c1) (hok _ (N9.out.tr NA.out)).1 rfl (by show aB.length<=_;omega) hls;rw[htx]at h;exact h:Calls Tryz.prog 29 #[.slice A1 aB.length c1] (w9.alloc (.cells #[.int .i64 kind,.int .i64 time,.slice A1 aB.length c1,.string text,.int .i64 value,.bool null,.int .i64 maker,.int .i64 seq,.int .i64 place] 58)) fun e w''=>e=.returned (.string (aT ⟨kind,time,aB,text,value,null,maker,seq,place⟩))/\Nx (w9.alloc (.cells #[.int .i64 kind,.int .i64 time,.slice A1 aB.length c1,.string text,.int .i64 value,.bool null,.int .i64 maker,.int .i64 seq,.int .i64 place] 58)) w'')
     have e2:(w9.alloc (.cells #[.int .i64 kind,.int .i64 time,.slice A1 aB.length c1,.string text,.int .i64 value,.bool null,.int .i64 maker,.int .i64 seq,.int .i64 place] 58)).cell? ⟨w9.heap.size,2,none⟩=some (.slice A1 aB.length c1):=HB.out.cell 2;have I9:=ah (HI.out.nx NA.out);obtain ⟨Aa,ca6,rfl, -, -⟩:=HI.out.al.form;clear hok h4 hls htx HI HB;go_wp2_with fail;clear e2 p0 p1 p2 p3 p4 p5 p6 p7 p8;refine HT.out.mono ?_;rintro e w10 ⟨rfl,n10⟩;have I10:=ah (I9.out.nx n10);have HI10:=ah I10.out.al;clear n10 HT I9;obtain ⟨j0,hj0,hy0,hy1,hy2⟩:=info_parts Tryz.GL;go_wp2_with (at_builtin;refine z06 rfl (.tmp 63) (.tmp 68) _ rfl 9 j0 _ 16 Tryz.underlying80 hj0 hy0 hy1 hy2 rfl (Value.string (aT ⟨kind,time,aB,text,value,null,maker,seq,place⟩)) rfl rfl HI10.out rfl (by simp only[maxLen];omega) (by omega) ?_;intro v11 w11 o11 m11;have I11:=ah (kS.word I10.out o11 m11);obtain ⟨A11,c11,rfl, -, -⟩:=o11.form;clear o11 m11)
     go_roundw
     case rel=>exact ⟨j+1,_,hjt,by go_num,I11,ah (by rw[Yh.out,HTJ.out];simp)⟩
     case measure=>simp[intOf];omega
    ·have hjj:j=q:=by omega
     have Lp:Hid (Gr.take j=Gr):=ah (List.take_of_length_le (by have:=Yq.out;omega));clear hjt;go_wp2_with fail;go_roundw
     case rel=>
      refine ⟨k+1,.slice A7 (ss.length+1) c7,ws2,hlt,by go_num,?_,ah ?_,ah ?_,ah ?_⟩
      ·rw[HT.out,z2W,List.length_append,←HB.out,←HZ.out]
       go_num
      ·rw[HT.out,z2W,List.length_append,←HB.out,←HZ.out]
       omega
      ·have h:=HI.out
       rw[HT.out,z3N,←HB.out,←HZ.out,←HT0.out,←HT2.out,←qN.out,Yq.out];exact h
      ·rw[Yh.out,HT.out,Lp.out]
       simp
     case measure=>simp[intOf];omega
  ·have VF:Hid (R.take k=R):=ah (List.take_of_length_le (by have:=jB.out;omega))
   have HWE:Hid (ws=R.flatten.map aT):=ah (by rw[Yi.out,VF.out])
   have hwl:ws.length<=2048:=by
    rw[HWE.out,List.length_map];exact HN.out
   rw[VF.out]at HI;obtain ⟨Aa,ca6,rfl, -, -⟩:=HI.out.al.form;have HD:=ah (yV _ Aa ws.length ca6 ws w4 HI.out.al.rd rfl (by omega));clear Yi Yv;go_wp2_with fail;refine HD.out.mono ?_;rintro e w5 ⟨vd,rfl,od⟩;have I5:=ah (HI.out.dict od);obtain ⟨Ad,cd,rfl, -, -⟩:=od.form;have hTl:=Iw ws;have Yo:Hid (z13 R=(bM ws).map fun t=>⟨t,bU t 0 R⟩):=ah (by unfold z13;rw[HWE.out]);clear od HD HI HWE VF;obtain ⟨T,hT⟩:∃T,T=bM ws:=⟨_,rfl⟩;rw[←hT]at I5 hTl Yo ⊢;clear hT;obtain ⟨ss,hss⟩:∃ss,ss=iw 5 R:=⟨_,rfl⟩;have qN:=ah hss;rw[←hss]at I5;clear hss;obtain ⟨As,cs,rfl, -, -⟩:=I5.out.ix.os.form;have hTl2:T.length<=2048:=(by omega);clear hTl;go_wp2_with fail;go_loopw [75] (fun i wr=>∃(j:Nat) (vp:Value) (ps:List PV),j<=T.length/\i=.int .i64 (j:Int)/\Hid (kS w wr w.heap.size (.slice As ss.length cs) vp ss ps (.slice Ad T.length cd) T)/\Hid (ps.map PV.e=(T.take j).map fun t=>⟨t,bU t 0 R⟩)/\Hid (∀x∈ps,∀g∈x.gs,0<=g)) (fun i _=>T.length-(intOf i).toNat)
   case atStart=>exact ⟨0,_,[],Nat.zero_le _,rfl,I5,ah rfl,ah (by simp)⟩
   case round=>
    clear I5;obtain ⟨w6,rfl⟩:∃w6:World,w6=wr:=⟨_,rfl⟩;obtain ⟨j,vp,ps,hjn,rfl,HI,Qv,QU⟩:=hrel;have N6:=ah HI.out.al.nx;by_cases hjt:j<T.length
    ·--A< loop2
     obtain ⟨ad,u,rfl, -,hu,hc⟩:=HI.out.al.rd.at_ hjt;rw[Dy hjt]at hu;injection hu with hu;subst hu;have HTJ:=ah (take_snoc hjt)
     have hpl:ps.length=j:=by
      have:=congrArg List.length Qv.out;simpa [Nat.min_eq_left hjn]using this
     have CJ:=ah hpl;have hpl2:ps.length<=2048:=(by omega);clear hpl;generalize T.getD j ByteArray.empty=t at *;have B7:=ah (aG.new w6 167 #[.string t,.slice none 0 0]);have M7:=ah ((Ch.refl (fun _=>False) w6).alloc (.cells #[.string t,.slice none 0 0] 167));have O7:Hid (ak w6 (w6.alloc (.cells #[.string t,.slice none 0 0] 167)) 3 1 (.slice none 0 0) (bU t 0 (R.take 0)).length (ints ((bU t 0 (R.take 0)).map fun x:Nat=>(x:Int)))):=ah (ak.nil _ _ _ _ M7.out);go_wp2_with fail;clear hc;go_loopw [83] (fun i wr=>∃(k:Nat) (vi:Value),k<=m/\i=.int .i64 (k:Int)/\Hid (Nx w6 wr)/\Hid (aG wr w6.heap.size 167 #[.string t,vi])/\Hid (ak w6 wr 3 1 vi (bU t 0 (R.take k)).length (ints ((bU t 0 (R.take k)).map fun x:Nat=>(x:Int))))) (fun i _=>m-(intOf i).toNat)
     case atStart=>exact ⟨0,_,Nat.zero_le _,rfl,M7,B7,O7⟩
     case round=>
      clear M7 B7 O7;obtain ⟨w7,rfl⟩:∃w7:World,w7=wr:=⟨_,rfl⟩;obtain ⟨k,vi,hkm,rfl,M7,B7,O7⟩:=hrel;have N7:=ah (N6.out.tr M7.out);have hLl:(bU t 0 (R.take k)).length<=2048:=Nat.le_trans (uK _ _) (by rw[List.length_take];have:=Nat.min_le_left k R.length;omega);by_cases hkt:k<m
      ·--A< loop3
       have hkg:k<gs.length:=by have:=HM.out;omega
       have hkR:k<R.length:=by have:=jB.out;omega
       obtain ⟨gd,u,rfl, -,hu,hc⟩:=(HR.out w7 N7.out).at_ hkt;rw[List.getElem?_map,List.getElem?_eq_getElem hkg]at hu;have HG:=ah (fun (W':World) (c':Nx w W')=>HK.out W' c' _ (List.getElem_mem hkg));have HX:=Yn.out k hkg hkR;generalize gs[k]=g at hu HG HX;obtain ⟨Ag,cg,l⟩:=g;simp only[Option.map_some,GV.v]at hu;injection hu with hu;subst hu;have Cb:=Zt.out _ (List.getElem_mem hkR);have HT:=ah (List.take_succ_eq_append_getElem hkR);have hl256:l.length<=256:=by have:=Cb.few;rw[HX]at this;simpa [GV.rows]using this
       obtain ⟨Gr,hGr⟩:∃t,t=R[k]:=⟨_,rfl⟩;rw[←hGr]at Cb HT HX;have Yq:Hid (Gr.length=l.length):=ah (by rw[HX];simp[GV.rows]);have HXH:=ah HX;have Yu:=ah Cb
       have HH:Hid (bU t 0 (R.take (k+1))=bU t 0 (R.take k)++if (Gr.any fun x=>decide (aT x=t))=true then [k] else []):=ah (by
        rw[HT.out,EH,List.length_take,Nat.min_eq_left (Nat.le_of_lt hkR)])
       clear HX Cb hGr HT;go_wp2_with fail;clear hc;go_loopw [17,90] (fun s17 i wr=>∃r:Nat,r<=l.length/\i=.int .i64 (r:Int)/\s17=.bool ((Gr.take r).any fun x=>decide (aT x=t))/\Hid (Nx w7 wr)) (fun _ i _=>l.length-(intOf i).toNat)
       case atStart=>exact ⟨0,Nat.zero_le _,rfl,rfl,ah (Ch.refl _ _)⟩
       case round=>
        obtain ⟨w9,rfl⟩:∃w9:World,w9=wr:=⟨_,rfl⟩;obtain ⟨r,hrq,rfl,rfl,M9⟩:=hrel;have N9:=ah (N7.out.tr M9.out);by_cases hrt:r<l.length
        ·have hrG:r<Gr.length:=by have:=Yq.out;omega
         obtain ⟨ad2,rfl, -,p0,p1,p2,p3,p4,p5,p6,p7,p8⟩:=z18 (show Rd w9 D 9 Ag l.length (iE l) from (HG.out w9 N9.out).rd) hrt;have hok:=fun (W':World) (c':Nx w W')=>(HG.out W' c').row _ (List.getElem_mem hrt)
         have HX0:Gr[r]=l[r].row:=by
          rw[List.getElem_of_eq HXH.out hrG];simp[GV.rows]
         have Qw:=ou (Yu.out.row Gr[r] (List.getElem_mem hrG))
         have HAN:Hid (((Gr.take (r+1)).any fun x=>decide (aT x=t))=(((Gr.take r).any fun x=>decide (aT x=t))||decide (aT l[r].row=t))):=ah (by
          rw[List.take_succ_eq_append_getElem hrG,HX0];simp)
         rw[HX0]at Qw;clear HX0;generalize l[r]=x at *;obtain ⟨⟨kind,time,aB,text,value,null,maker,seq,place⟩,A1,c1⟩:=x;simp only at p0 p1 p2 p3 p4 p5 p6 p7 p8 Qw HAN;obtain ⟨h4,hls,htx⟩:=Qw;have HB:=ah (aG.new w9 58 #[.int .i64 kind,.int .i64 time,.slice A1 aB.length c1,.string text,.int .i64 value,.bool null,.int .i64 maker,.int .i64 seq,.int .i64 place]);have NA:=ah ((Ch.refl (fun _=>False) w9).alloc (.cells #[.int .i64 kind,.int .i64 time,.slice A1 aB.length c1,.string text,.int .i64 value,.bool null,.int .i64 maker,.int .i64 seq,.int .i64 place] 58));have MA:=ah (M9.out.tr NA.out);obtain ⟨b,hb⟩:∃b,b=(Gr.take r).any fun x=>decide (aT x=t):=⟨_,rfl⟩;rw[←hb]at HAN ⊢;clear hb;cases b
         ·have HT:=ah (by
           have h:=z4s (c:=c1) (hok _ (N9.out.tr NA.out)).1 rfl (by show aB.length<=_;omega) hls;rw[htx]at h;exact h:Calls Tryz.prog 29 #[.slice A1 aB.length c1] (w9.alloc (.cells #[.int .i64 kind,.int .i64 time,.slice A1 aB.length c1,.string text,.int .i64 value,.bool null,.int .i64 maker,.int .i64 seq,.int .i64 place] 58)) fun e w''=>e=.returned (.string (aT ⟨kind,time,aB,text,value,null,maker,seq,place⟩))/\Nx (w9.alloc (.cells #[.int .i64 kind,.int .i64 time,.slice A1 aB.length c1,.string text,.int .i64 value,.bool null,.int .i64 maker,.int .i64 seq,.int .i64 place] 58)) w'')
          have e2:(w9.alloc (.cells #[.int .i64 kind,.int .i64 time,.slice A1 aB.length c1,.string text,.int .i64 value,.bool null,.int .i64 maker,.int .i64 seq,.int .i64 place] 58)).cell? ⟨w9.heap.size,2,none⟩=some (.slice A1 aB.length c1):=HB.out.cell 2;have HQ:=ah (QM (aT ⟨kind,time,aB,text,value,null,maker,seq,place⟩) t);clear hok h4 hls htx HB;generalize aT ⟨kind,time,aB,text,value,null,maker,seq,place⟩=X at *;go_wp2_with fail;clear e2 p0 p1 p2 p3 p4 p5 p6 p7 p8;refine HT.out.mono ?_;rintro e w10 ⟨rfl,n10⟩;have M10:=ah (MA.out.tr n10);clear n10 HT;by_cases he:X=t
          ·have hq:(X.toList==t.toList)=true:=by rw[HQ.out];exact decide_eq_true he
           have hd:Hid (decide (X=t)=true):=ah (decide_eq_true he);clear he HQ;go_wp2_with fail;go_roundw
           case rel=>exact ⟨r+1,hrt,by go_num,by rw[HAN.out,hd.out];rfl,M10⟩
           case measure=>simp[intOf];omega
          ·have hq:(X.toList==t.toList)=false:=by rw[HQ.out];exact decide_eq_false he
           have hd:Hid (decide (X=t)=false):=ah (decide_eq_false he);clear he HQ;go_wp2_with fail;go_roundw
           case rel=>exact ⟨r+1,hrt,by go_num,by rw[HAN.out,hd.out];rfl,M10⟩
           case measure=>simp[intOf];omega
         ·clear hok h4 hls htx HB
          go_wp2_with fail;go_roundw
          case rel=>exact ⟨r+1,hrt,by go_num,by rw[HAN.out];rfl,MA⟩
          case measure=>simp[intOf];omega
        ·have Lp:Hid (Gr.take r=Gr):=ah (List.take_of_length_le (by have:=Yq.out;omega))
         rw[Lp.out];have O9:=ah (O7.out.tr M9.out);have B9:=ah (B7.out.nx M9.out);have M69:=ah (M7.out.tr M9.out);obtain ⟨b,hb⟩:∃b,b=Gr.any fun x=>decide (aT x=t):=⟨_,rfl⟩;rw[←hb]at HH ⊢;obtain ⟨L,hL⟩:∃L,L=bU t 0 (R.take k):=⟨_,rfl⟩;rw[←hL]at HH O9 hLl;clear hb hL O7 B7 M7 M9 Lp;cases b
         ·go_wp2_with fail
          go_roundw
          case rel=>exact ⟨k+1,_,hkt,by go_num,M69,B9,ah (by rw[HH.out,if_neg (by decide),List.append_nil];exact O9.out)⟩
          case measure=>simp[intOf];omega
         ·obtain ⟨Ai,ci,rfl, -, -⟩:=O9.out.form
          have e1:w9.cell? ⟨w6.heap.size,1,none⟩=some (.slice Ai L.length ci):=B9.out.cell 1;obtain ⟨i0,hi0,hz0,hz1,hz2⟩:=info_parts Tryz.Oe;go_wp2_with (at_builtin;refine z06 rfl (.tmp 106) (.tmp 108) _ rfl 3 i0 _ 8 Tryz.underlying88 hi0 hz0 hz1 hz2 rfl (Value.int .i64 (k:Int)) rfl rfl O9.out rfl (by simp only[maxLen];omega) (by omega) ?_;intro v11 w11 o11 m11;obtain ⟨A11,c11,rfl, -, -⟩:=o11.form;have b11:=B9.out.ch m11.ch (fun e=>z03 O9.out.own B9.out (by decide) e);have fz:w11.frozen? ⟨w6.heap.size,1,none⟩=false:=b11.frozen 1;have cz:w11.cell? ⟨w6.heap.size,1,none⟩=some (.slice Ai L.length ci):=b11.cell 1;have P11:=ah (Ju b11 o11);clear o11 m11 b11)
          go_roundw
          case rel=>
           obtain ⟨P1,P2,P3⟩:=P11.out;refine ⟨k+1,_,hkt,by go_num,ah P1,ah P2,ah ?_⟩;rw[HH.out,if_pos rfl,List.length_append,List.map_append];simpa [ints]using P3
          case measure=>simp[intOf];omega
      ·have VF:Hid (R.take k=R):=ah (List.take_of_length_le (by have:=jB.out;omega))
       rw[VF.out]at O7 hLl;obtain ⟨Ai,ci,rfl, -, -⟩:=O7.out.form;obtain ⟨Ap,cp,rfl, -, -⟩:=HI.out.ix.op.form;have I7:=ah (HI.out.nx M7.out);have c0:w7.cell? ⟨w6.heap.size,0,none⟩=some (.string t):=B7.out.cell 0;have c1:w7.cell? ⟨w6.heap.size,1,none⟩=some (.slice Ai (bU t 0 R).length ci):=B7.out.cell 1;have d1:w7.cell? ⟨w.heap.size+1,1,none⟩=some (.slice Ap ps.length cp):=I7.out.ix.blk.cell 1;obtain ⟨x0,hx0⟩:∃x:PV,x=⟨t,(bU t 0 R).map fun x:Nat=>(x:Int),Ai,ci⟩:=⟨_,rfl⟩;have HX0:=ah hx0
       have HLP:Hid (Rd (w7.alloc (.cells #[.string t,.slice Ai (bU t 0 R).length ci] 167)) (fun k=>k=w7.heap.size) 2 (some ⟨w7.heap.size,0,none⟩) 1 (iM [x0])):=ah (by
        have h:=Rd.aak w7 x0;rw[HX0.out]at h ⊢;simpa using h)
       have I8:=ah (I7.out.nx ((Ch.refl (fun _=>False) w7).alloc (.cells #[.string t,.slice Ai (bU t 0 R).length ci] 167)));have Zp:=ah I8.out.ix.op
       have HRI:Hid (Rd (w7.alloc (.cells #[.string t,.slice Ai (bU t 0 R).length ci] 167)) (fun k=>w.heap.size<=k/\k<(w7.alloc (.cells #[.string t,.slice Ai (bU t 0 R).length ci] 167)).heap.size/\∃cs,aG (w7.alloc (.cells #[.string t,.slice Ai (bU t 0 R).length ci] 167)) k 3 cs) 1 x0.A x0.gs.length (ints x0.gs)):=ah (by
        have h:=JF N6.out.size (O7.out.tr ((Ch.refl (fun _=>False) w7).alloc (.cells #[.string t,.slice Ai (bU t 0 R).length ci] 167)));rw[HX0.out];simpa using h)
       have HPN:Hid (PV.e x0=⟨t,bU t 0 R⟩/\∀g∈x0.gs,0<=g):=ah (by
        rw[HX0.out];refine ⟨by simp[PV.e,Function.comp_def],fun g hg=>?_⟩;obtain ⟨y, -,rfl⟩:=List.mem_map.1 hg;exact Int.natCast_nonneg y)
       clear hx0 O7 I7 HI;obtain ⟨i0,hi0,hz0,hz1,hz2⟩:=info_parts Tryz.JH;go_wp2_with (at_builtin;refine z05 rfl (.tmp 113) (.tmp 115) _ rfl 167 i0 _ 2 40 Tryz.underlying98 hi0 hz0 hz1 hz2 rfl (by omega) rfl Zp.out _ (some ⟨w7.heap.size,0,none⟩) 1 1 (iM [x0]) rfl HLP.out (Nj _) (by simp only[maxLen];omega) (by omega) ?_;intro v12 w12 o12 m12;have I12:=ah (kS.post I8.out o12 m12 HRI.out);have b12:=I8.out.aaQ m12;obtain ⟨A12,c12,rfl, -, -⟩:=o12.form;have fz:w12.frozen? ⟨w.heap.size+1,1,none⟩=false:=b12.frozen 1;have cz:w12.cell? ⟨w.heap.size+1,1,none⟩=some (.slice Ap ps.length cp):=b12.cell 1;clear o12 m12 b12)
       go_roundw
       case rel=>
        refine ⟨j+1,_,ps++[x0],hjt,by go_num,I12,ah ?_,ah fun x hx=>?_⟩
        ·rw[List.map_append,Qv.out,HTJ.out,List.map_append,List.map_cons,List.map_nil,List.map_cons,List.map_nil,HPN.out.1]
        ·rcases List.mem_append.1 hx with hx|hx
         ·exact QU.out x hx
         ·rw[List.mem_singleton.1 hx]
          exact HPN.out.2
       case measure=>simp[intOf];omega
    ·have Lm:Hid (T.take j=T):=ah (List.take_of_length_le (by omega))
     obtain ⟨Ap,cp,rfl, -, -⟩:=HI.out.ix.op.form;have d0:w6.cell? ⟨w.heap.size+1,0,none⟩=some (.slice As ss.length cs):=HI.out.ix.blk.cell 0;have d1:w6.cell? ⟨w.heap.size+1,1,none⟩=some (.slice Ap ps.length cp):=HI.out.ix.blk.cell 1;have g0:w6.cell? ⟨w.heap.size,0,none⟩=some (.slice none 0 0):=HI.out.bk.cell 0;have g1:w6.cell? ⟨w.heap.size,1,none⟩=some (.slice none 0 0):=HI.out.bk.cell 1;have f0:w6.frozen? ⟨w.heap.size,0,none⟩=false:=HI.out.bk.frozen 0;have f1:w6.frozen? ⟨w.heap.size,1,none⟩=false:=HI.out.bk.frozen 1;go_wp2_with fail;have e0:(w6.setCell ⟨w.heap.size,0,none⟩ (.slice As ss.length cs)).cell? ⟨w.heap.size,0,none⟩=some (.slice As ss.length cs):=(HI.out.bk.dK 0 (.slice As ss.length cs)).cell 0;have e1:((w6.setCell ⟨w.heap.size,0,none⟩ (.slice As ss.length cs)).setCell ⟨w.heap.size,1,none⟩ (.slice Ap ps.length cp)).cell? ⟨w.heap.size,1,none⟩=some (.slice Ap ps.length cp):=((HI.out.bk.dK 0 (.slice As ss.length cs)).dK 1 (.slice Ap ps.length cp)).cell 1;refine bodyPost_ret (v:=.agg #[.slice As ss.length cs,.slice Ap ps.length cp]) (by simp[results,Tryz.results52,go_sem,e0,e1]) rfl ?_;refine ⟨_,_,ps,w.heap.size+1,rfl,?_,?_,QU.out⟩
     ·rw[←qN.out]
      exact HI.out.fin (Ch.setCell (Ch.setCell (Ch.refl (· =w.heap.size) _) (p:=⟨w.heap.size,0,none⟩) (fun _=>rfl) _) (p:=⟨w.heap.size,1,none⟩) (fun _=>rfl) _)
     ·rw[Qv.out,Lm.out,Yo.out]
def row0:aA:=⟨1,5,[],⟨#[120]⟩,0,false,1,1,0⟩
theorem z4e:kP [row0] 4=0:=by decide+kernel
theorem Eu (W:World) (mm:Int) (hz:W.cell? ⟨0,0,none⟩=some (.int .i64 mm)) (hrd:∀(w:World) (D:Nat->Prop) (A:Option Addr) (c:Nat),Rd w D 1 A (bg [row0] (4:Int).toNat).length (bl (bg [row0] (4:Int).toNat))->(bg [row0] (4:Int).toNat).length<=c->(∀k,D k->k<w.heap.size)->w.cell? ⟨0,0,none⟩=some (.int .i64 mm)->Calls Tryz.prog 21 #[.slice A (bg [row0] (4:Int).toNat).length c] w (vF w (some [row0]))):Calls Tryz.prog 11 #[] W fun e W'=>e=.returned (.bool true)/\Nx W W':=by
 have hr0:=Rd.WT W ⟨row0,none,0⟩;have hn0:Nx W (W.alloc (.cells #[.int .i64 1,.int .i64 5,.slice none 0 0,.string ⟨#[120]⟩,.int .i64 0,.bool false,.int .i64 1,.int .i64 1,.int .i64 0] 58)):=(Ch.refl _ W).alloc _
 have hb:=z5g (n:=1) (c:=1) (l:=[⟨row0,none,0⟩]) hr0 rfl (by decide) (Nat.le_refl _) (fun x hx=>by
  rw[List.mem_singleton]at hx;subst hx;exact ⟨⟨Rd.none_ _ _ _ _,Nat.le_refl _,by decide⟩,⟨⟨by simp[row0],by decide,by unfold i64;decide,by unfold i64;decide,by unfold i64;decide,by unfold i64;decide,by unfold i64;decide,by unfold i64;decide⟩,by decide⟩⟩) 4 (by decide) (by decide)
 rw[show ([(⟨row0,none,0⟩:RV)]:List RV).map (fun x=>x.row)=[row0] from rfl]at hb;unfold QK at hb;have HB:=ah hb;have HN:=ah hn0;have HZ:=ah (fun (w':World) (c':Nx W w')=>show w'.cell? ⟨0,0,none⟩=some (.int .i64 mm) from (c'.cell (p:=⟨0,0,none⟩) (World.block_lt_of_cell? W _ hz)).trans hz);have hlen:(bg [row0] (4:Int).toNat).length<=262144:=(z3r z4e).2.2.2.2;have jo:=ah hrd;have Zr:=ah z4e;clear hb hn0 hr0 hz hrd;generalize (bg [row0] (4:Int).toNat)=X at *;go_enter Tryz.func11,Tryz.ntmps11;go_wp2_with fail;refine HB.out.mono ?_;rintro e w1 ⟨-,hk⟩;obtain ⟨k,cap,rfl,o1⟩:=hk Zr.out;have N1:=ah (HN.out.tr o1.nx)
 have hcap:X.length<=cap:=by
  obtain ⟨_,_,ee,hcap, -⟩:=o1.form;injection ee with _ _ ee;omega
 have HR:=ah (jo.out w1 _ _ cap o1.iy hcap (fun j e=>by have:=(o1.lt k rfl).2;omega) (HZ.out w1 N1.out));clear HB jo hk o1 HZ hcap;go_wp2_with fail;refine HR.out.mono ?_;intro e w2 hgt;have hgt2:∃(zs:List RV) (A:Option Addr) (c:Nat),e=.returned (.tuple #[.slice A zs.length c,.int .i64 0])/\zs.map (fun x=>x.row)=[row0]/\fJ w1 w2 (.slice A zs.length c) zs/\(∀z∈zs,z.row.few):=hgt;clear hgt;obtain ⟨zs,A2,c2,he,hz2,jT,hfw⟩:=hgt2;clear hfw;subst he
 have hzl:zs.length=1:=by
  have:=congrArg List.length hz2;rw[List.length_map]at this;exact this
 obtain ⟨z,rfl⟩:=List.length_eq_one_iff.1 hzl;have hzr:z.row=row0:=List.head_eq_of_cons_eq hz2;clear hz2 hzl;have N2:=ah (N1.out.tr jT.own.nx);obtain ⟨ad,hA,hbl,r0,r1,r2,r3,r4,r5,r6,r7,r8⟩:=z18 jT.rd (k:=0) (Nat.lt_succ_self 0);subst hA;simp only[List.getElem_cons_zero,hzr,Nat.zero_mul]at r3;have r3':w2.cell? ⟨(ad.add 0).block,(ad.add 0).off+3,none⟩=some (.string ⟨#[120]⟩):=r3;have e0:ad.add 0=ad:=by simp[Addr.add]
 rw[e0]at r3';clear r0 r1 r2 r3 r4 r5 r6 r7 r8 hzr jT HR N1 Zr hlen;go_wp2_with fail;go_ret;exact ⟨rfl,N2.out⟩
end Go.Proofs.YtpakjclpjcngmaaGreat

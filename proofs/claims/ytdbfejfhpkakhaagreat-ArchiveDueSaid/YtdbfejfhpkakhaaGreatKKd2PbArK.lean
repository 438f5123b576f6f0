/- Contracts and plain laws that the last text rests on. Conditions: each theorem states its own. -/
import Derived.Test.YtdbfejfhpkakhaaGreatKKd2PbArG
import Derived.Test.YtdbfejfhpkakhaaGreatKKd2Q2
import Derived.Test.YtdbfejfhpkakhaaGreatKKd2Q24
import Derived.Test.YtdbfejfhpkakhaaGreatKKd2Q25
import Derived.Test.YtdbfejfhpkakhaaGreatKKd2Q26
import Derived.Test.YtdbfejfhpkakhaaGreatKKd2Q4
import Derived.Test.YtdbfejfhpkakhaaGreatKKd2Q12
import Derived.Test.YtdbfejfhpkakhaaGreatKKd2Q13
import Derived.Test.YtdbfejfhpkakhaaGreatKKd2Q6
import Derived.Laws.Concat
set_option maxRecDepth 100000
set_option maxHeartbeats 16000000
set_option linter.unusedVariables false
set_option linter.unusedSimpArgs false
namespace Go.Proofs.YtdbfejfhpkakhaaGreat
open Go.RowKit Ps
def Bq (window:Int) (aH:List ByteArray) (r:aC):ByteArray:=iT (aB (r.time.tdiv window).toNat)++partT r.ak aH
def QK (w:World) (C:aV) (l:List aC) (e:Ending) (w':World):Prop:=∃v ks,e=.returned v/\aF w w' 113 10 v ks.length (DW ks)/\ks.map (fun p=>(p.1,p.2.row))=l.map fun r=>(Bq C.window C.aH r,r)
theorem aF.base {W0 W w:World} {e:TypeId} {s n:Nat} {v:Value} {xs:List Value} (c:Nx W0 W) (h:aF W w e s v n xs):aF W0 w e s v n xs:=⟨su h.own c.size,c.tr h.nx⟩
section
variable {w : World} {D : Nat → Prop} {a : Nat} {ag life : Int} {C : aV} {A : Option Addr} {k bb m n : Nat} {ch : ByteArray → Option Nat} {R : ByteArray → List RV} {wt wv : Value} {since : Int} {fl : Bool} {pc : Value} {bl : Int}
theorem GK {ξ:Nat} (h:ou ξ w a ag life C A k bb m n ch R wt wv since fl pc bl) (b:dF) (hb:b.ok w D) (hall:∀x∈b.l,aT x.row=true) (hlen:b.l.length<=1000):
 Calls Tryz.prog 29 #[.pointer (some ⟨a,0,none⟩),oG b] w (QK w C (b.l.map fun x=>x.row)):=by
 obtain ⟨i0,hi0,hz0,hz1,hz2⟩:=info_parts Tryz.KO;have Vz:=ah h;obtain ⟨⟨hw1,hw2⟩,h4, -⟩:=N_ h.fits;have HRW:=ah (fun w' (n:Nx w w')=>lZ b (hb.nx n) (by omega) (fun x hx=>by have:=(Nu (Nw (hall x hx)).1).1;omega))
 have YO:Hid (∀r∈b.l.map (fun x=>x.row),aT r=true/\∀y∈r.ak,y.small):=ah (fun r hr=>by
  obtain ⟨x,hx,rfl⟩:=List.mem_map.1 hr;exact ⟨hall x hx,(hb.mid x hx).1.1⟩)
 have QO:Hid ((b.l.map fun x=>x.row).length<=1000):=ah (by rw[List.length_map];exact hlen);clear h hb hall hlen;unfold oG at *;generalize (b.l.map fun x=>x.row)=rs at *;have HN:=ah ((Ch.refl (fun _=>False) w).alloc (.cells #[.int .i64 b.maker,.int .i64 b.seq,.slice b.A b.l.length b.c] 37));go_enter Tryz.func29,Tryz.ntmps29;go_wp2_with fail;refine (HRW.out _ HN.out).mono ?_;rintro e w2 ⟨vr,zs,rfl,hro,hzs⟩;obtain ⟨Ar,cr,rfl, -, -⟩:=hro.form;have HZ:=ah hzs;have N2:=ah (HN.out.tr hro.own.nx);have jd:=ah (hro.own.rd.more (D':=fun _=>True) fun _ _=>trivial);have NM:=ah (fun z hz=>(hro.ok z hz).ch (D':=fun _=>True) (Ch.refl (fun _=>False) w2) (fun _ _ _ hf=>hf) fun _ _=>trivial);have HRR:Hid (∀z∈zs,aT z.row=true/\∀y∈z.row.ak,y.small):=ah (fun z hz=>YO.out z.row (by rw[←hzs];exact List.mem_map_of_mem hz));have hzl:zs.length<=1000:=by have:=QO.out;rw[←hzs,List.length_map]at this;exact this
 obtain ⟨Z,hZ⟩:∃Z,zs.length=Z:=⟨_,rfl⟩;have EH:=ah hZ;rw[hZ]at jd hzl ⊢;clear hro hzs HRW hZ YO;go_wp2_with fail;go_loopw [5,13] (fun v i wr=>∃(j:Nat) (ks:List (ByteArray×RV)),j<=Z/\ks.length=j/\i=.int .i64 (j:Int)/\Hid (aF w2 wr 113 10 v j (DW ks))/\Hid (ks.map (fun p=>(p.1,p.2.row))=(zs.take j).map fun z=>(Bq C.window C.aH z.row,z.row))) (fun _ i _=>Z-(intOf i).toNat)
 case atStart=>exact ⟨0,[],Nat.zero_le _,rfl,rfl,ah (aF.nil w2 w2 _ 10 (Ch.refl _ _)),ah rfl⟩
 case round=>
  obtain ⟨w4,rfl⟩:∃w4:World,w4=wr:=⟨_,rfl⟩;obtain ⟨j,ks,hjZ,hkj,rfl,HO,HM⟩:=hrel;by_cases hlt:j<Z
  ·have hjz:j<zs.length:=by rw[EH.out];exact hlt
   obtain ⟨ad,rfl, -,p0,p1,p2,p3,p4,p5,p6,p7,p8⟩:=qg (jd.out.nx (by decide) HO.out.nx) hjz;have HT:=ah (List.take_succ_eq_append_getElem hjz);have Xv:=(NM.out _ (List.getElem_mem hjz)).ch (D':=fun _=>True) HO.out.nx (fun _ _ _ hf=>hf) fun _ hd=>hd;obtain ⟨hrec,hsm⟩:=HRR.out _ (List.getElem_mem hjz);obtain ⟨A3,c3,hv3, -, -⟩:=HO.out.form;subst hv3;generalize zs[j]=x at *;obtain ⟨⟨kind,time,ak,text,value,null,maker,seq,place⟩,A1,c1⟩:=x;simp only at p0 p1 p2 p3 p4 p5 p6 p7 p8 hsm;obtain ⟨hright, -⟩:=Nw hrec;have hl4:=(Nu hright).1;simp only at hl4
   have Zm:0<=time/\time<1099511627776:=by
    unfold aT at hrec;rw[Bool.and_eq_true,Bool.and_eq_true,decide_eq_true_eq]at hrec;exact hrec.1.1
   have BX:=ah (aG.new w4 79 #[.int .i64 kind,.int .i64 time,.slice A1 ak.length c1,.string text,.int .i64 value,.bool null,.int .i64 maker,.int .i64 seq,.int .i64 place]);have N5:=ah ((Ch.refl (fun _=>False) w4).alloc (.cells #[.int .i64 kind,.int .i64 time,.slice A1 ak.length c1,.string text,.int .i64 value,.bool null,.int .i64 maker,.int .i64 seq,.int .i64 place] 79));go_upto_region 5 with fail
   clear p0 p1 p2 p3 p4 p5 p6 p7 p8;obtain ⟨w5,hW⟩:∃w5,w4.alloc (.cells #[.int .i64 kind,.int .i64 time,.slice A1 ak.length c1,.string text,.int .i64 value,.bool null,.int .i64 maker,.int .i64 seq,.int .i64 place] 79)=w5:=⟨_,rfl⟩;obtain ⟨gx,hgx⟩:∃gx,w4.heap.size=gx:=⟨_,rfl⟩;rw[hW]at BX N5;rw[hgx]at BX;simp only[hW,hgx];have N25:=ah (HO.out.nx.tr N5.out);have HA5:=ah ((Vz.out.nx N2.out).nx N25.out);have hga:a<w5.heap.size:=HA5.out.blk.lt;have hgl:gx<w5.heap.size:=BX.out.lt;have gK:=ah (fun w' (c:Nx w5 w')=>(⟨(BX.out.nx c).cell 2,(HA5.out.nx c).blk.cell 3⟩:w'.cell? ⟨gx,2,none⟩=some (.slice A1 ak.length c1)/\w'.cell? ⟨a,3,none⟩=some (.slice A C.aH.length k)));have Iy:=ah (fun w' (c:Nx w5 w')=>wP (c:=c1) (d:=k) ((Xv.1.nx (by decide) N5.out).nx (by decide) c) (by show ak.length<=_;omega) (HA5.out.nx c).aH (by omega));simp only at Iy;have Iw:=ah hsm;have EI:=ah hright
   have vF:Hid ((aX ak C.aH).length<=4):=ah (by
    have:=List.length_filter_le (fun x:bT=>inB C.aH x.name) ak;unfold aX;omega)
   have Yo:=ah (fun (Ap:Option Addr) (cp:Nat) w6 {D6:Nat->Prop} (hrd:Rd w6 D6 2 Ap (aX ak C.aH).length (lbl (aX ak C.aH)))=>(show Calls Tryz.prog 50 #[.slice Ap (aX ak C.aH).length cp] w6 (fun e w'=>e=.returned (.tuple #[.string (partT ak C.aH),.int .i64 0])/\Nx w6 w') from by
    have:=lC (c:=cp) hrd (by have:=vF.out;omega) (fun x hx=>Iw.out x (List.mem_filter.1 hx).1);rw[if_pos (z2I EI.out C.aH)]at this;exact this))
   clear hW hgx Xv hsm hright;obtain ⟨q0,q1⟩:=gK.out w5.drew (Ch.refl _ w5).drew
   go_region_held3 (fun w'=>w'.cell? ⟨gx,2,none⟩=some (.slice A1 ak.length c1)/\w'.cell? ⟨a,3,none⟩=some (.slice A C.aH.length k)) (first|(with_reducible exact ⟨q0,q1⟩)|fail) (first
    |(go_at_call 51;refine (Iy.out _ (Ch.refl _ w5).drew).mono ?_;rintro e w6 ⟨v6,rfl,o6⟩;obtain ⟨Ap,cp,rfl, -, -⟩:=o6.form;have N6:=ah ((Ch.refl (fun _=>False) w5).drew.tr o6.nx);have O6:=ah o6;obtain ⟨q0,q1⟩:=gK.out w6 N6.out;clear o6)
    |(go_at_call 50;refine (Yo.out Ap cp _ O6.out.rd).mono ?_;rintro e w7 ⟨rfl,n7⟩;have N7:=ah (N6.out.tr n7);obtain ⟨q0,q1⟩:=gK.out w7 N7.out;clear n7))
   have N27:=ah (N25.out.tr N7.out);have HA7:=ah (HA5.out.nx N7.out);have BX7:=ah (BX.out.nx N7.out);have hga7:a<w7.heap.size:=HA7.out.blk.lt;have hgl7:gx<w7.heap.size:=BX7.out.lt;have HO7:=ah ((HO.out.tr N5.out).tr N7.out);have HSZ7:=ah HO7.out.nx.size;have HK2:=ah (fun w' (c:Nx w7 w')=>(⟨(BX7.out.nx c).cell 0,(BX7.out.nx c).cell 1,(BX7.out.nx c).cell 2,(BX7.out.nx c).cell 3,(BX7.out.nx c).cell 4,(BX7.out.nx c).cell 5,(BX7.out.nx c).cell 6,(BX7.out.nx c).cell 7,(BX7.out.nx c).cell 8,(HA7.out.nx c).blk.cell 2⟩:w'.cell? ⟨gx,0,none⟩=some (.int .i64 kind)/\w'.cell? ⟨gx,1,none⟩=some (.int .i64 time)/\w'.cell? ⟨gx,2,none⟩=some (.slice A1 ak.length c1)/\w'.cell? ⟨gx,3,none⟩=some (.string text)/\w'.cell? ⟨gx,4,none⟩=some (.int .i64 value)/\w'.cell? ⟨gx,5,none⟩=some (.bool null)/\w'.cell? ⟨gx,6,none⟩=some (.int .i64 maker)/\w'.cell? ⟨gx,7,none⟩=some (.int .i64 seq)/\w'.cell? ⟨gx,8,none⟩=some (.int .i64 place)/\w'.cell? ⟨a,2,none⟩=some (.int .i64 C.window)));obtain ⟨q,hq⟩:∃q,q=time.tdiv C.window:=⟨_,rfl⟩
   have hq0:0<=q/\q<=time:=by
    rw[hq,Int.tdiv_eq_ediv_of_nonneg Zm.1];exact ⟨Int.ediv_nonneg Zm.1 (by omega),Int.ediv_le_self _ Zm.1⟩
   obtain ⟨qn,hqn⟩:∃qn:Nat,q=(qn:Int):=⟨q.toNat,by omega⟩;have Vq:Hid (Bq C.window C.aH ⟨kind,time,ak,text,value,null,maker,seq,place⟩=iT (aB qn)++partT ak C.aH):=ah (by unfold Bq;rw[←hq,hqn];rfl);have hq1:time.tdiv C.window=(qn:Int):=(by rw[←hq,hqn]);have hq2:time / C.window=(qn:Int):=(by rw[←Int.tdiv_eq_ediv_of_nonneg Zm.1,hq1]);have hq3:IntKind.i64.wrap (qn:Int)=(qn:Int):=IntWalk.i64_in _ (by omega);have hq4:IntKind.u64.wrap (qn:Int)=(qn:Int):=by simp[IntKind.wrap,IntKind.bits,IntKind.signed];omega
   have hwz:C.window≠0:=(by omega);have hps:(partT ak C.aH).size<=300:=z2K _ _;have Vk:=ah (z10 qn w7.drew (by omega));have Wy:Hid ((iT (aB qn)).size<=20):=ah (by rw[ZK];have:=(z08 (n:=qn) (by omega)).2;omega);obtain ⟨pt,hpt⟩:∃pt,pt=partT ak C.aH:=⟨_,rfl⟩;rw[←hpt]at Vq hps;simp only[←hpt];clear hpt hq hqn Iy Yo gK q0 q1 O6 N6 vF;go_wp2_with fail;refine sD (fun w'=>w'.cell? ⟨gx,0,none⟩=some (.int .i64 kind)/\w'.cell? ⟨gx,1,none⟩=some (.int .i64 time)/\w'.cell? ⟨gx,2,none⟩=some (.slice A1 ak.length c1)/\w'.cell? ⟨gx,3,none⟩=some (.string text)/\w'.cell? ⟨gx,4,none⟩=some (.int .i64 value)/\w'.cell? ⟨gx,5,none⟩=some (.bool null)/\w'.cell? ⟨gx,6,none⟩=some (.int .i64 maker)/\w'.cell? ⟨gx,7,none⟩=some (.int .i64 seq)/\w'.cell? ⟨gx,8,none⟩=some (.int .i64 place)/\w'.cell? ⟨a,2,none⟩=some (.int .i64 C.window)) (fun i=>decide (18<=i)) rfl (HK2.out w7.drew (Ch.refl _ w7).drew) (fun hS0=>?_)
   try simp only[Act.put,aA,au,ay]
   refine z00 (i:=0) (oi:=_) (v:=?_) rfl (fun _ _ _ h=>h) (Or.inl ⟨by rfl,?_⟩) ?_;rotate_left
   ·(intro w hSw;(try dsimp only at hSw);go_split_ands;go_simp;try with_reducible rfl)
   try simp only[Act.put,aA,au,ay]
   refine z00 (i:=1) (oi:=_) (v:=?_) rfl (fun _ _ _ h=>h) (Or.inl ⟨by rfl,?_⟩) ?_;rotate_left
   ·(intro w hSw;(try dsimp only at hSw);go_split_ands;go_simp;try with_reducible rfl)
   try simp only[Act.put,aA,au,ay]
   refine z00 (i:=2) (oi:=_) (v:=?_) rfl (fun _ _ _ h=>h) (Or.inl ⟨by rfl,?_⟩) ?_;rotate_left
   ·(intro w hSw;(try dsimp only at hSw);go_split_ands;go_simp;try with_reducible rfl)
   try simp only[Act.put,aA,au,ay]
   refine z00 (i:=3) (oi:=_) (v:=?_) rfl (fun _ _ _ h=>h) (Or.inl ⟨by rfl,?_⟩) ?_;rotate_left
   ·(intro w hSw;(try dsimp only at hSw);go_split_ands;go_simp;try with_reducible rfl)
   try simp only[Act.put,aA,au,ay]
   refine z00 (i:=4) (oi:=_) (v:=?_) rfl (fun _ _ _ h=>h) (Or.inl ⟨by rfl,?_⟩) ?_;rotate_left
   ·(intro w hSw;(try dsimp only at hSw);go_split_ands;go_simp;try with_reducible rfl)
   try simp only[Act.put,aA,au,ay]
   refine z00 (i:=5) (oi:=_) (v:=?_) rfl (fun _ _ _ h=>h) (Or.inl ⟨by rfl,?_⟩) ?_;rotate_left
   ·(intro w hSw;(try dsimp only at hSw);go_split_ands;go_simp;try with_reducible rfl)
   try simp only[Act.put,aA,au,ay]
   refine z00 (i:=6) (oi:=_) (v:=?_) rfl (fun _ _ _ h=>h) (Or.inl ⟨by rfl,?_⟩) ?_;rotate_left
   ·(intro w hSw;(try dsimp only at hSw);go_split_ands;go_simp;try with_reducible rfl)
   try simp only[Act.put,aA,au,ay]
   refine z00 (i:=7) (oi:=_) (v:=?_) rfl (fun _ _ _ h=>h) (Or.inl ⟨by rfl,?_⟩) ?_;rotate_left
   ·(intro w hSw;(try dsimp only at hSw);go_split_ands;go_simp;try with_reducible rfl)
   try simp only[Act.put,aA,au,ay]
   refine z00 (i:=8) (oi:=_) (v:=?_) rfl (fun _ _ _ h=>h) (Or.inl ⟨by rfl,?_⟩) ?_;rotate_left
   ·(intro w hSw;(try dsimp only at hSw);go_split_ands;go_simp;try with_reducible rfl)
   try simp only[Act.put,aA,au,ay]
   refine z00 (i:=9) (oi:=_) (v:=?_) rfl (fun _ _ _ h=>h) (Or.inl ⟨by rfl,?_⟩) ?_;rotate_left
   ·(intro w hSw;(try dsimp only at hSw);go_split_ands;go_simp;try with_reducible rfl)
   try simp only[Act.put,aA,au,ay]
   refine z00 (i:=10) (oi:=_) (v:=?_) rfl (fun _ _ _ h=>h) (Or.inl ⟨by rfl,?_⟩) ?_;rotate_left
   ·(intro w hSw;(try dsimp only at hSw);go_split_ands;go_simp;try with_reducible rfl)
   try simp only[Act.put,aA,au,ay]
   refine z00 (i:=13) (oi:=_) (v:=?_) rfl (fun _ _ _ h=>h) (Or.inl ⟨by rfl,?_⟩) ?_;rotate_left
   ·(intro w hSw;(try dsimp only at hSw);go_split_ands;go_simp;try with_reducible rfl)
   try simp only[Act.put,aA,au,ay]
   refine z00 (i:=15) (oi:=_) (v:=?_) rfl (fun _ _ _ h=>h) (Or.inl ⟨by rfl,?_⟩) ?_;rotate_left
   ·(intro w hSw;(try dsimp only at hSw);go_split_ands;go_simp;try with_reducible rfl)
   try simp only[Act.put,aA,au,ay]
   refine z02 (rs:=[11]) (by kernel_rfl) (by simp) (z01.cons (o:=_) rfl (fun K hK=>?_) z01.nil);go_simp;refine Vk.out.mono ?_;rintro e w8 ⟨kb,cap,rfl,o8, -, -, -, -⟩;have hcv:=Ze (P:=Tryz.prog) w8 47 9 5 Tryz.underlying47 Tryz.underlying5 Tryz.underlying9 _ _ _ cap _ o8.rd;have N8:=ah ((Ch.refl (fun _=>False) w7).drew.tr o8.nx);have HO8:=ah (HO7.out.tr N8.out);have HSZ8:=ah HO8.out.nx.size;have hsb:=Wy.out;clear o8;generalize iT (aB qn)=sk at *;have hsum:¬9223372036854775807<sk.size+pt.size:=(by omega);have HL10:=ah (Rd.RI w8 (sk++pt) ⟨⟨kind,time,ak,text,value,null,maker,seq,place⟩,A1,c1⟩);go_wp2_with fail;refine hK.out _ _ (fun _=>HK2.out w8 N8.out) (fun aj=>?_);have hHeld:=aj (by decide);clear hK K aj
   try simp only[Act.put,aA,au,ay]
   refine z02 (rs:=[12]) (by kernel_rfl) (by simp) (z01.cons (o:=_) rfl (fun K hK=>?_) z01.nil);go_simp;refine hK.out _ _ (fun _=>HK2.out w8 N8.out) (fun aj=>?_);have hHeld:=aj (by decide);clear hK K aj
   try simp only[Act.put,aA,au,ay]
   refine z02 (rs:=[14]) (by kernel_rfl) (by simp) (z01.cons (o:=_) rfl (fun K hK=>?_) z01.nil);go_simp;refine hK.out _ _ (fun _=>HK2.out w8 N8.out) (fun aj=>?_);have hHeld:=aj (by decide);clear hK K aj
   try simp only[Act.put,aA,au,ay]
   refine z02 (rs:=[16]) (by kernel_rfl) (by simp) (z01.cons (o:=_) rfl (fun K hK=>?_) z01.nil);go_simp;refine hK.out _ _ (fun _=>HK2.out w8 N8.out) (fun aj=>?_);have hHeld:=aj (by decide);clear hK K aj
   try simp only[Act.put,aA,au,ay]
   refine z02 (rs:=[17]) (by kernel_rfl) (by simp) (z01.cons (o:=_) rfl (fun K hK=>?_) z01.nil);go_simp;refine hK.out _ _ (fun _=>HK2.out _ (N8.out.alloc _)) (fun aj=>?_);have hHeld:=aj (by decide);clear hK K aj
   try simp only[Act.put,aA,au,ay]
   refine z02 (rs:=[18]) (by kernel_rfl) (by simp) (z01.cons (o:=_) rfl (fun K hK=>?_) z01.nil);refine Ns _ rfl (.tmp 30) (.tmp 47) _ rfl w2.heap.size 113 i0 _ 10 112 Tryz.underlying90 hi0 hz0 hz1 hz2 rfl (by omega) (.slice A3 j c3) j (DW ks) rfl (HO8.out.alloc _).own _ (some ⟨w8.heap.size,0,none⟩) 1 1 (DW [(sk++pt,⟨⟨kind,time,ak,text,value,null,maker,seq,place⟩,A1,c1⟩)]) rfl HL10.out (DV _) (by simp only[maxLen];omega) (by omega) (by have:=HSZ8.out;simp;omega) ?_;intro v9 w9 jq gr9 at9;obtain ⟨o9,m9⟩:=Di HO8.out ((Ch.refl _ w8).alloc _) jq gr9 at9;have O9:=ah o9;clear jq gr9 at9 o9 m9;refine hK.out _ _ (fun h=>absurd h (by decide)) (fun aj=>?_);clear hK K aj
   try simp only[Act.put,aA,au,ay]
   refine z02 (rs:=[19]) (by kernel_rfl) (by simp) (z01.cons (o:=_) rfl (fun K hK=>?_) z01.nil);go_simp;refine hK.out _ _ (fun h=>absurd h (by decide)) (fun aj=>?_);clear hK K aj
   try simp only[Act.put,aA,au,ay]
   refine kE (by kernel_rfl) ?_ _;go_wp2_with fail;go_roundw
   case rel=>exact ⟨j+1,ks++[(sk++pt,⟨⟨kind,time,ak,text,value,null,maker,seq,place⟩,A1,c1⟩)],by omega,by rw[List.length_append,hkj];rfl,by go_num,ah (by rw[Bj];exact O9.out),ah (by rw[List.map_append,HM.out,HT.out,List.map_append,List.map_cons,List.map_nil,List.map_cons,List.map_nil,Vq.out])⟩
   case measure=>simp[intOf];omega
  ·have HE:Hid ((zs.take j).map (fun z=>(Bq C.window C.aH z.row,z.row))=rs.map fun r=>(Bq C.window C.aH r,r)):=ah (by
    rw[List.take_of_length_le (by have:=EH.out;omega),←HZ.out,List.map_map];rfl)
   go_wp2_with fail;go_ret;refine ⟨_,ks,rfl,?_,by rw[←HE.out];exact HM.out⟩;rw[hkj];exact aF.base N2.out HO.out
end
end Go.Proofs.YtdbfejfhpkakhaaGreat

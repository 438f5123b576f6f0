/- Contracts and plain laws that the last text rests on. Conditions: each theorem states its own. -/
import Derived.Test.YtdbfejfhpkakhaaGreatKKd2Q3
import Derived.Test.YtdbfejfhpkakhaaGreatKKd2Q2
import Derived.Test.YtdbfejfhpkakhaaGreatKKd2PbShl
import Derived.Lib.AppendStr
import Derived.Lib.Builder
import Derived.Lib.UnsafeStr
import Derived.Laws.Externs
set_option maxRecDepth 100000
set_option maxHeartbeats 4000000
set_option linter.unusedVariables false
set_option linter.unusedSimpArgs false
namespace Go.Proofs.YtdbfejfhpkakhaaGreat
open Go.RowKit
theorem Tryz.uq:(Tryz.prog.info? 5).map (fun i=>(i.zero,i.size,i.bytes))=some (some (.int .u8 0),1,1):=by kernel_rfl
theorem Tryz.Dx:(Tryz.prog.info? 158).map (·.size)=some 2:=by kernel_rfl
theorem Tryz.Pv:liesAt Tryz.prog Tryz.prog.depth 158 (2 / Tryz.prog.cellsOf 158) 0 158 1=true:=by kernel_rfl
def jO (W w:World) (b:Nat) (l:List UInt8):Prop:=∃(p:Option Addr) (v:Value),(p=none∨p=some ⟨b,0,none⟩)/\aG w b 158 #[.pointer p,v]/\aF W w 5 1 v l.length (Lib.byteCells l)/\W.heap.size<=b
def Rest (b:Nat) (w w':World):Prop:=w.heap.size<=w'.heap.size/\∀g t cs,aG w g t cs->t≠5->g≠b->aG w' g t cs
theorem Rest.trans {b:Nat} {w1 w2 w3:World} (h:Rest b w1 w2) (k:Rest b w2 w3):Rest b w1 w3:=⟨Nat.le_trans h.1 k.1,fun g t cs hb ht hg=>k.2 g t cs (h.2 g t cs hb ht hg) ht hg⟩
theorem jO.new (W:World):jO W (W.alloc (.cells #[.pointer none,.slice none 0 0] 158)) W.heap.size []:=
 ⟨none,_,.inl rfl,aG.new ..,aF.nil W _ _ 1 ((Ch.refl _ W).alloc _),Nat.le_refl _⟩
theorem jO.nx {W w:World} {b:Nat} {l:List UInt8} (h:jO W w b l):Nx W w:=by
 obtain ⟨p,v,_,_,o,_⟩:=h;exact o.nx
theorem jO.tr {W w w':World} {b:Nat} {l:List UInt8} (h:jO W w b l) (c:Nx w w'):jO W w' b l:=by
 obtain ⟨p,v,hp,hb,o,hw⟩:=h;exact ⟨p,v,hp,hb.nx c,o.tr c,hw⟩
def QX (W w:World) (b:Nat) (l:List UInt8) (v:Value):Prop:=aG w b 158 #[.pointer (some ⟨b,0,none⟩),v]/\aF W w 5 1 v l.length (Lib.byteCells l)/\W.heap.size<=b
theorem QX.put {W w w7:World} {b:Nat} {l m:List UInt8} {v v':Value} (h:QX W w b l v) (o:aF W w7 5 1 v' (l.length+m.length) (Lib.byteCells l++Lib.byteCells m)) (mv:Ch (fun k=>v.ownBlock=some k) w w7):
 jO W (w7.setCell ⟨b,1,none⟩ v') b (l++m)/\Rest b w (w7.setCell ⟨b,1,none⟩ v')/\aG w7 b 158 #[.pointer (some ⟨b,0,none⟩),v]:=by
 have hn:v.ownBlock≠some b:=z07 h.2.1.own h.1 (by decide);have b7:aG w7 b 158 #[.pointer (some ⟨b,0,none⟩),v]:=h.1.ch mv hn;have hn7:v'.ownBlock≠some b:=z07 o.own b7 (by decide);have c:Ch (fun k=>k=b) w7 (w7.setCell ⟨b,1,none⟩ v'):=Ch.setCell (Ch.refl (fun k=>k=b) w7) (p:=⟨b,1,none⟩) (fun _=>rfl) v';refine ⟨⟨some ⟨b,0,none⟩,v',.inr rfl,b7.aS 1 v',?_,h.2.2⟩,⟨?_,fun g t cs hg ht hgb=>?_⟩,b7⟩
 ·have o2:=o.ch c (fun k hk e=>hn7 (by rw[hk,e])) (fun i hi e=>by have:=h.2.2;omega)
  rw[List.length_append,show Lib.byteCells (l++m)=Lib.byteCells l++Lib.byteCells m by simp[Lib.byteCells]];exact o2
 ·rw[World.size_setCell]
  exact mv.size
 ·have g7:=hg.ch mv (fun e=>by
   rcases h.2.1.own.2 with ⟨rfl,_⟩|⟨k,cap,cur,rfl,_,hh,_⟩
   ·cases e
   ·have:k=g:=by simpa [Value.ownBlock]using e
    subst this;unfold aG at hg;rw[hh]at hg;injection hg with hg;injection hg with _ ht2;exact ht ht2.symm)
  exact g7.ch c (fun e=>hgb e)
theorem MI (b:Nat) (w:World) (h0:w.cell? ⟨b,0,none⟩=some (.pointer (some ⟨b,0,none⟩))):Calls Tryz.prog 106 #[.pointer (some ⟨b,0,none⟩)] w fun e w'=>e=.returned (.tuple #[])/\w'=w:=by
 obtain ⟨j,hj,_⟩:=Option.map_eq_some_iff.1 Tryz.Dx;go_enter Tryz.func106,Tryz.ntmps106;go_wp2_with fail;rw[Lib.run_neq_ptr_same w _ Tryz.underlying156 hj];go_wp2_with fail;go_end0
 exact ⟨rfl,rfl⟩
theorem Ip (b:Nat) (w:World) (h0:w.cell? ⟨b,0,none⟩=some (.pointer none)) (hsh:w.shape? b=some (158,2)) (hfz:w.frozen? ⟨b,0,none⟩=false):
 Calls Tryz.prog 106 #[.pointer (some ⟨b,0,none⟩)] w fun e w'=>e=.returned (.tuple #[])/\w'=w.setCell ⟨b,0,none⟩ (.pointer (some ⟨b,0,none⟩)):=by
 obtain ⟨j,hj,hjs⟩:=Option.map_eq_some_iff.1 Tryz.Dx;go_enter Tryz.func106,Tryz.ntmps106;go_wp2_with fail;rw[Lib.run_to_unsafe w ⟨b,0,none⟩ Tryz.underlying156 Tryz.underlying244 hj (by rw[hjs];decide) hsh (Nat.zero_lt_succ 1)];simp only[Result.andThen];rw[Oper.upon_value];go_wp2_with fail;rw[run_callFunc_extern Tryz.func150 (by kernel_rfl) (by kernel_rfl) (by kernel_rfl) (e:=Extern.AbiNoEscape.same) (by kernel_rfl)];rw[Lib.run_noEscape];simp only[Result.andThen];rw[Oper.upon_value];go_wp2_with fail;rw[Lib.run_from_unsafe w ⟨b,0,none⟩ Tryz.underlying244 Tryz.underlying156 hj hsh Tryz.Pv];simp only[Result.andThen];rw[Oper.upon_value];go_wp2_with fail;go_end0
 exact ⟨rfl,rfl⟩
theorem nT {W w:World} {b:Nat} {l:List UInt8} {p:Option Addr} {v:Value} (hp:p=none∨p=some ⟨b,0,none⟩) (hb:aG w b 158 #[.pointer p,v]) (o:aF W w 5 1 v l.length (Lib.byteCells l)) (hw:W.heap.size<=b):
 Calls Tryz.prog 106 #[.pointer (some ⟨b,0,none⟩)] w fun e w'=>e=.returned (.tuple #[])/\QX W w' b l v/\Ch (fun k=>k=b) w w':=by
 rcases hp with rfl|rfl
 ·refine (Ip b w (hb.cell 0) ?_ (hb.frozen 0)).mono ?_
  ·have h2:w.heap[b]?=some (.cells #[.pointer none,v] 158 (0,0)):=hb
   simp[World.shape?,h2]
  ·rintro e w' ⟨rfl,rfl⟩
   have c:Ch (fun k=>k=b) w (w.setCell ⟨b,0,none⟩ (.pointer (some ⟨b,0,none⟩))):=Ch.setCell (Ch.refl (fun k=>k=b) w) (p:=⟨b,0,none⟩) (fun _=>rfl) _;have hn:v.ownBlock≠some b:=z07 o.own hb (by decide);exact ⟨rfl,⟨hb.aS 0 _,o.ch c (fun k hk e=>hn (by rw[hk,e])) (fun i hi e=>by omega),hw⟩,c⟩
 ·refine (MI b w (hb.cell 0)).mono ?_
  rintro e w' ⟨rfl,rfl⟩;exact ⟨rfl,⟨hb,o,hw⟩,Ch.refl _ _⟩
theorem rX {W w:World} {b:Nat} {l:List UInt8} (h:jO W w b l):Calls Tryz.prog 106 #[.pointer (some ⟨b,0,none⟩)] w fun e w'=>e=.returned (.tuple #[])/\(∃v,QX W w' b l v)/\Rest b w w':=by
 obtain ⟨p,v,hp,hb,o,hw⟩:=h;refine (nT hp hb o hw).mono ?_;rintro e w' ⟨rfl,hu,c⟩;exact ⟨rfl,⟨v,hu⟩,c.size,fun g t cs hg ht hgb=>hg.ch c hgb⟩
section
variable {W w : World} {b : Nat} {l : List UInt8}
theorem z15 (h:jO W w b l) (s:ByteArray) (hl:l.length+s.size<=1099511627776):Calls Tryz.prog 71 #[.pointer (some ⟨b,0,none⟩),.string s] w fun e w'=>e=.returned (.tuple #[.int .i64 (s.size:Int),.nilIface])/\jO W w' b (l++s.data.toList)/\Rest b w w':=by
 obtain ⟨i0,hi0,hz0,hz1,hz2⟩:=info_parts Tryz.uq;have HC:=ah (rX h);clear h;go_enter Tryz.func71,Tryz.ntmps71;go_wp2_with fail;refine HC.out.mono ?_;rintro e w1 ⟨rfl,⟨v,hu⟩,hr⟩;have HU:=ah hu;have HR:=ah hr;obtain ⟨A,c,hv,hc1,hc2⟩:=hu.2.1.form;subst hv;have c0:w1.cell? ⟨b,0,none⟩=some (.pointer (some ⟨b,0,none⟩)):=hu.1.cell 0;have c1:w1.cell? ⟨b,1,none⟩=some (.slice A l.length c):=hu.1.cell 1;have hlt:=hu.1.lt;clear hu hr HC;go_wp2_with (at_builtin;refine Lib.wpList_append_own_string w1 rfl (.tmp 12) (.tmp 13) _ 9 rfl W.heap.size 5 i0 Tryz.underlying47 Tryz.underlying9 hi0 hz0 hz1 hz2 (.slice A l.length c) l.length (Lib.byteCells l) rfl HU.out.2.1.own s rfl (by simp only[maxLen];omega) (by omega) HU.out.2.1.nx.size ?_;intro v7 w7 dn gr7 at7;have hnx:Nx W w7:=HU.out.2.1.nx.grown gr7 fun k hk hlt=>(by have:=HU.out.2.1.lt k hk;omega);have o7:aF W w7 5 1 v7 (l.length+s.data.toList.length) (Lib.byteCells l++Lib.byteCells s.data.toList):=⟨by rw[show s.data.toList.length=s.size from Array.length_toList ..];exact dn,hnx⟩;obtain ⟨A8,c8,hu8, -, -⟩:=o7.form;subst hu8;obtain ⟨z1,z2,z3⟩:=HU.out.put o7 ((Ch.refl _ w1).grown gr7 (fun k hk _=>hk));have r0:w7.cell? ⟨b,1,none⟩=some (.slice A l.length c):=z3.cell 1;have r1:w7.frozen? ⟨b,1,none⟩=false:=z3.frozen 1;have Z1:=ah z1;have Z2:=ah (HR.out.trans z2);have XG:=z3.lt;clear dn gr7 at7 o7 z1 z2 z3 c0 c1 hnx)
 refine bodyPost_ret (v:=.tuple #[.int .i64 (s.size:Int),.nilIface]) (by simp[results,Tryz.results71,go_sem]) rfl ⟨rfl,Z1.out,Z2.out⟩
theorem yJ (h:jO W w b l) (x:UInt8) (hl:l.length<=1099511627776):Calls Tryz.prog 73 #[.pointer (some ⟨b,0,none⟩),.int .u8 (x.toNat:Int)] w fun e w'=>e=.returned .nilIface/\jO W w' b (l++[x])/\Rest b w w':=by
 obtain ⟨i0,hi0,hz0,hz1,hz2⟩:=info_parts Tryz.uq;have HC:=ah (rX h);clear h;go_enter Tryz.func73,Tryz.ntmps73;go_wp2_with fail;refine HC.out.mono ?_;rintro e w1 ⟨rfl,⟨v,hu⟩,hr⟩;have HU:=ah hu;have HR:=ah hr;obtain ⟨A,c,hv,hc1,hc2⟩:=hu.2.1.form;subst hv;have c0:w1.cell? ⟨b,0,none⟩=some (.pointer (some ⟨b,0,none⟩)):=hu.1.cell 0;have c1:w1.cell? ⟨b,1,none⟩=some (.slice A l.length c):=hu.1.cell 1;have hlt:=hu.1.lt;clear hu hr HC;go_wp2_with (at_builtin;refine Rq rfl (.tmp 11) (.tmp 13) _ rfl 5 i0 _ 1 Tryz.underlying47 hi0 hz0 hz1 hz2 rfl (.int .u8 (x.toNat:Int)) rfl rfl HU.out.2.1 rfl (by simp only[maxLen];omega) (by omega) ?_;intro v7 w7 o7 m7;obtain ⟨A8,c8,hu8, -, -⟩:=o7.form;subst hu8;obtain ⟨z1,z2,z3⟩:=HU.out.put (m:=[x]) o7 m7.ch;have r0:w7.cell? ⟨b,1,none⟩=some (.slice A l.length c):=z3.cell 1;have r1:w7.frozen? ⟨b,1,none⟩=false:=z3.frozen 1;have Z1:=ah z1;have Z2:=ah (HR.out.trans z2);have XG:=z3.lt;clear o7 m7 z1 z2 z3 c0 c1)
 go_ret;exact ⟨rfl,Z1.out,Z2.out⟩
theorem rW (h:jO W w b l) {g:Nat} {m:List UInt8} {cap:Nat} (hg:aG w g 5 (Lib.byteCells m).toArray) (hgo:∀v,w.cell? ⟨b,1,none⟩=some v->v.ownBlock≠some g) (hl:l.length+m.length<=1099511627776):
 Calls Tryz.prog 74 #[.pointer (some ⟨b,0,none⟩),.slice (some ⟨g,0,none⟩) m.length cap] w fun e w'=>e=.returned (.tuple #[.int .i64 (m.length:Int),.nilIface])/\jO W w' b (l++m)/\Rest b w w':=by
 obtain ⟨i0,hi0,hz0,hz1,hz2⟩:=info_parts Tryz.uq;obtain ⟨p,v,hp,hb,o,hw⟩:=h;have hgv:=hgo v (hb.cell 1);have HC:=ah (nT hp hb o hw)
 have hgb:g≠b:=fun e=>by
  subst e;exact aG.DT hb hg (by decide) rfl
 obtain ⟨A,c,hv,hc1,hc2⟩:=o.form;subst hv;clear hp hb o hgo;go_enter Tryz.func74,Tryz.ntmps74;go_wp2_with fail;refine HC.out.mono ?_;rintro e w1 ⟨rfl,hu,hr⟩;have HU:=ah hu;have HR:Hid (Rest b w w1):=ah ⟨hr.size,fun g t cs hg ht hgb=>hg.ch hr hgb⟩;have c0:w1.cell? ⟨b,0,none⟩=some (.pointer (some ⟨b,0,none⟩)):=hu.1.cell 0;have c1:w1.cell? ⟨b,1,none⟩=some (.slice A l.length c):=hu.1.cell 1;have hlt:=hu.1.lt;have g1:=hg.ch hr hgb;have jd:Hid (Rd w1 (fun k=>k=g) 1 (some ⟨g,0,none⟩) m.length (Lib.byteCells m)):=ah ⟨by rw[Lib.byteCells_length,Nat.mul_one],fun _=>⟨_,rfl,rfl,fun j u hj=>World.news_of_block g1 j u (by simpa using hj)⟩⟩;clear hu hr HC hg g1;go_wp2_with (at_builtin;refine z05 rfl (.tmp 12) (.tmp 13) _ rfl 5 i0 _ 1 1 Tryz.underlying47 hi0 hz0 hz1 hz2 rfl (by omega) rfl HU.out.2.1 _ (some ⟨g,0,none⟩) m.length cap (Lib.byteCells m) rfl jd.out (fun u hu=>by simp[Lib.byteCells]at hu;obtain ⟨_,_,rfl⟩:=hu;rfl) (by simp only[maxLen];omega) (by omega) ?_;intro v7 w7 o7 m7;obtain ⟨A8,c8,hu8, -, -⟩:=o7.form;subst hu8;obtain ⟨z1,z2,z3⟩:=HU.out.put (m:=m) o7 m7.ch;have r0:w7.cell? ⟨b,1,none⟩=some (.slice A l.length c):=z3.cell 1;have r1:w7.frozen? ⟨b,1,none⟩=false:=z3.frozen 1;have Z1:=ah z1;have Z2:=ah (HR.out.trans z2);have XG:=z3.lt;clear o7 m7 z1 z2 z3 c0 c1)
 refine bodyPost_ret (v:=.tuple #[.int .i64 (m.length:Int),.nilIface]) (by simp[results,Tryz.results74,go_sem]) rfl ⟨rfl,Z1.out,Z2.out⟩
theorem Qs (h:jO W w b l) (hw:W.heap.size<=w.heap.size):Calls Tryz.prog 75 #[.pointer (some ⟨b,0,none⟩)] w fun e w'=>e=.returned (.string ⟨l.toArray⟩)/\Below W.heap.size w w':=by
 obtain ⟨p,v,hp,hb,o,hwb⟩:=h;refine Tryz.Builder_String_any W.heap.size b l w ?_ hw;have hn:v.ownBlock≠some b:=z07 o.own hb (by decide);have hA:Lib.BuilderAt 158 5 W.heap.size b (.pointer p) (Lib.byteCells l) w:=⟨hwb,v,hb,by rw[Lib.byteCells_length];exact o.own,hn⟩;rcases hp with rfl|rfl
 ·exact .inl hA
 ·exact .inr hA
end
end Go.Proofs.YtdbfejfhpkakhaaGreat

/- A disk's Append. Condition: the disk is a call's own; name and parts can be read, within the form's reach. -/
import Derived.Test.YtgeofijddhflaaaGreatDoorQDiskOp
import Derived.Test.YtgeofijddhflaaaGreatDoorQKeepSame
set_option maxHeartbeats 8000000
set_option maxRecDepth 100000
namespace Go.Proofs.YtgeofijddhflaaaGreatDoor
section
open Go.RowKit Go.Maps Go.Sort Oct
theorem bQ1{P:Program}{k e:TypeId}{w:World}{m:Nat}{l:List (Nm×Nat)}{o:Oper}{a:Act}{K:Act->World->Prop}{Q:Exit->Act->World->Prop}(mo xo:Operand)(t:TypeId)(a9:o.op=Op.call {callee:=Callee.builtin Builtin.delete,args:=#[mo,xo],argTypes:=#[t,k]})(hk:P.underlying k=some .string)(ht:P.underlying t=some (.map k e))(h:aF8 P k w m l)(s:ByteArray)(hs:s.size<=maxLen)
  (hm:a.eval mo=.map (some m)) (hx:a.eval xo=.string s) (hK:∀w',aF8 P k w' m (aC2 s.data.toList l)->w.grownBy w' (some m)->K (a.put o.dst (.tuple #[])) w'):o.wp P a w K Q:=by
 obtain⟨w',a8,r1,r2⟩:=h.del hk ht s hs o.type;unfold Oper.wp;simp[execOp,a9,resolve,invoke,builtin,hm,hx,a8,Result.andThen]
 exact hK w' r1 r2
section
variable{w w1 w2 w' :World}{base g m:Nat}{p p' :PWD}{room:Int}{es:List (Nm×FE)}
theorem aR7{n:Nm}{fe:FE}(h:aB6 n es=some fe):aB1 g m es fe.blk:=.inr (.inr ⟨_,aC8 h,.inl rfl⟩)
theorem bU3{n:Nm}{fe:FE}(h:aB6 n es=some fe){k:Nat}(hk:fe.v.ownBlock=some k):aB1 g m es k:=.inr (.inr ⟨_,aC8 h,.inr hk⟩)
theorem aC0.file_set(h1:aB4 w1 base g m p' room es)(hf1:Fr (aB1 g m es) w w1){n:Nm}{fe:FE}(hn:aB6 n es=some fe)(v:Value)(f:FD)(hs:w1.heap.size<=w2.heap.size)(hblk:Blk w2 fe.blk 83 #[v,.int .i64 f.safe])(hgot:Got w2 base v f.b)(hsafe:f.safe<=f.b.length)
  (hrow:∀k,v.ownBlock=some k->fe.v.ownBlock=some k∨w1.heap.size<=k) (hfr:∀k,k<w1.heap.size->k≠fe.blk->fe.v.ownBlock≠some k->w2.heap[k]? =w1.heap[k]?) (hos:w2.os=w1.os∧w2.tape=w1.tape∧w2.output=w1.output):
  aC0 w base g m es ⟨p',room,aB7 n f (sec FE.f es)⟩ w2:=
 ⟨aB7 n ⟨fe.blk,v,f⟩ es,h1.file_set hn v f hs hblk hgot hsafe hrow hfr,by rw[aJ2],hf1.trans ⟨hos.1,hos.2.1,hos.2.2,hs,fun k hk hm=>hfr k hk (fun e=>hm (by rw[e];exact aR7 hn)) (fun e=>hm (bU3 hn e))⟩ (fun j hj=>.inl hj),
  fun k hk=>bH2 hk (fun e=>.inl (by have e' :fe.blk=k:=e;rw[<-e'];exact aR7 hn)) (fun e=>by
   rcases hrow k e with h2|h2
   ·exact .inl (bU3 hn h2)
   exact .inr (Nat.le_trans hf1.size h2))⟩
theorem aY2{n:Nm}(h:aB6 n es=none):aB6 n (sec FE.f es)=none:=by rw[aH6,h];rfl
theorem aL5{n:Nm}{fe:FE}(h:aB6 n es=some fe):aB6 n (sec FE.f es)=some fe.f:=by rw[aH6,h];rfl
theorem cY1(h:aB4 w base g m p room es)(s:ByteArray)(hs:s.size<=140737488351232):
  Calls Tryz.prog 110 #[.pointer (some ⟨g,0,none⟩),.string s] w fun e w' =>e=.returned (.int .i64 ((aD6 p room es).sync s.data.toList).1)∧aC0 w base g m es ((aD6 p room es).sync s.data.toList).2 w' :=by
 have H:=qZ h;by_cases ho:p.off=true
 ·have e:(aD6 p room es).sync s.data.toList=(50,aD6 p room es):=by unfold DkD.sync;rw[if_pos ho]
  rw[e];have a8:=qZ (aV7 h s hs ho);clear h e;go_enter Tryz.func110,Tryz.ntmps110
  go_wp2_with fail
  refine a8.out.mono ?_;rintro e w' ⟨rfl,rfl⟩;go_wp2_with fail
  go_ret
  exact⟨rfl,aC0.mk' H.out (Fr.refl _ _)⟩
 have d8:p.off=false:=by simpa using ho
 cases hg:aB6 s.data.toList es with
 |none=>
  have e:(aD6 p room es).sync s.data.toList=(51,aD6 p room es):=by unfold DkD.sync;rw[if_neg ho];simp only[aY2 hg]
  rw[e];have a8:=qZ (aU0 h s hs hg d8);clear h e;go_enter Tryz.func110,Tryz.ntmps110
  go_wp2_with fail
  refine a8.out.mono ?_;rintro e w' ⟨rfl,rfl⟩;go_wp2_with fail
  go_ret
  exact⟨rfl,aC0.mk' H.out (Fr.refl _ _)⟩
 |some fe=>
  obtain⟨c,hc⟩:∃c,c=p.cut:=⟨_,rfl⟩
  obtain⟨f9,part,p'⟩:=c;have a8:=qZ (aR9 h s hs hg d8);have hcut:=qZ (bC1 h);rw[<-hc] at hcut;cases f9 with
  |true=>
   have e:(aD6 p room es).sync s.data.toList=(50,aD6 p' room es):=by unfold DkD.sync;rw[if_neg ho];simp only[aL5 hg];rw[<-hc];rfl
   rw[e];clear h e ho d8 hg hc;go_enter Tryz.func110,Tryz.ntmps110
   go_wp2_with fail
   refine a8.out.mono ?_;rintro e w' ⟨rfl,rfl⟩;go_wp2_with fail
   refine hcut.out.mono ?_;rintro e w1 ⟨rfl,hD,hF,f7⟩;have HD:=qZ (aC0.mk' hD hF);clear hD hF f7 a8 hcut;go_wp2_with fail
   go_ret
   exact⟨rfl,HD.out⟩
  |false=>
   have e:(aD6 p room es).sync s.data.toList=(0,⟨p',room,aB7 s.data.toList ⟨fe.f.b,fe.f.b.length⟩ (sec FE.f es)⟩):=by unfold DkD.sync;rw[if_neg ho];simp only[aL5 hg];rw[<-hc];rfl
   rw[e];have HG:=qZ hg;clear h e ho d8 hg hc;go_enter Tryz.func110,Tryz.ntmps110
   go_wp2_with fail
   refine a8.out.mono ?_;rintro e w' ⟨rfl,rfl⟩;go_wp2_with fail
   refine hcut.out.mono ?_;rintro e w1 ⟨rfl,hD,hF,f7⟩;have a9:=aC8 HG.out;have hK:Blk w1 fe.blk 83 #[fe.v,.int .i64 fe.f.safe]:=hD.file _ a9;have f6:Got w1 base fe.v fe.f.b:=hD.got _ a9;obtain⟨A,c,hv,_,_,_⟩:=f6.shape;have c0:w1.cell? ⟨fe.blk,0,none⟩=some fe.v:=hK.cell 0;have c1:w1.cell? ⟨fe.blk,1,none⟩=some (.int .i64 fe.f.safe):=hK.cell 1;have f1:=hK.frozen 1;rw[hv] at c0;have d9:=aA0 w1 fe.blk 1 (.int .i64 (fe.f.b.length:Int));have b8:aC0 w base g m es ⟨p',room,aB7 s.data.toList ⟨fe.f.b,fe.f.b.length⟩ (sec FE.f es)⟩ (w1.setCell ⟨fe.blk,1,none⟩ (.int .i64 (fe.f.b.length:Int))):=
    aC0.file_set hD hF HG.out fe.v ⟨fe.f.b,fe.f.b.length⟩ (by simp) (Blk.set_ hK 1 _) (f6.kept (fun q hq=>Below.heap_setCell w1 _ _ q (fun e=>aF0 f6 hK (by decide) (by rw[hq,e]))) (by simp)) (lR _) (fun k hk=>.inl hk) (fun k hk h1 h2=>Below.heap_setCell w1 _ _ k (fun e=>h1 e)) ⟨d9.os,d9.tape,d9.output⟩
   have f8:=qZ b8;clear b8 hD hF hK f6 hv a9 f7 d9 a8 hcut;go_wp2_with fail
   go_ret
   exact⟨rfl,f8.out⟩
theorem bN2(h:aB4 w base g m p room es)(s:ByteArray)(hs:s.size<=140737488351232)(b8:∀q∈es,q.2.f.b.length<=140737488351232):
  Calls Tryz.prog 69 #[.pointer (some ⟨g,0,none⟩),.string s] w fun e w' =>∃v,e=.returned (.tuple #[v,.int .i64 ((aD6 p room es).read s.data.toList).2])∧Bs w' w.heap.size v ((aD6 p room es).read s.data.toList).1∧Below w.heap.size w w' :=by
 by_cases ho:p.off=true
 ·have e:(aD6 p room es).read s.data.toList=([],50):=by unfold DkD.read;rw[if_pos ho]
  rw[e];have a8:=qZ (aV7 h s hs ho);clear h e;go_enter Tryz.func69,Tryz.ntmps69
  go_wp2_with fail
  refine a8.out.mono ?_;rintro e w' ⟨rfl,rfl⟩;go_wp2_with fail
  go_ret2
  exact⟨_,rfl,Own.nil _ _ _,lS _ _⟩
 have d8:p.off=false:=by simpa using ho
 cases hg:aB6 s.data.toList es with
 |none=>
  have e:(aD6 p room es).read s.data.toList=([],51):=by unfold DkD.read;rw[if_neg ho];simp only[aY2 hg]
  rw[e];have a8:=qZ (aU0 h s hs hg d8);clear h e;go_enter Tryz.func69,Tryz.ntmps69
  go_wp2_with fail
  refine a8.out.mono ?_;rintro e w' ⟨rfl,rfl⟩;go_wp2_with fail
  go_ret2
  exact⟨_,rfl,Own.nil _ _ _,lS _ _⟩
 |some fe=>
  have e:(aD6 p room es).read s.data.toList=(fe.f.b,0):=by unfold DkD.read;rw[if_neg ho];simp only[aL5 hg]
  rw[e];have a8:=qZ (aR9 h s hs hg d8);have a9:=aC8 hg;have hK:Blk w fe.blk 83 #[fe.v,.int .i64 fe.f.safe]:=h.file _ a9;obtain⟨A,c,hv,f9,g8,f8⟩:=(h.got _ a9).shape;have f7:fe.v=.slice A fe.f.b.length c:=hv;have c0:w.cell? ⟨fe.blk,0,none⟩=some fe.v:=hK.cell 0;rw[f7] at c0;have hl:=b8 _ a9;have f6:=qZ (aQ7 A fe.f.b fe.f.b.length c rfl w f8 hl);clear h e ho d8 hg hK hv f7 f8 b8 a9 hl;go_enter Tryz.func69,Tryz.ntmps69
  go_wp2_with fail
  refine a8.out.mono ?_;rintro e w' ⟨rfl,rfl⟩;go_wp2_with fail
  refine f6.out.mono ?_;rintro e w1 ⟨v,rfl,d9,hb⟩;obtain⟨A1,c1,rfl,_,_,_⟩:=aC5 d9;have HV:=qZ (And.intro d9 hb);clear d9 hb f6 a8;go_wp2_with fail
  go_ret2
  exact⟨_,rfl,HV.out.1,HV.out.2⟩
end
end
section
open Go.RowKit Go.Maps Go.Sort Oct
theorem cF0{P:Program}{k e:TypeId}{w:World}{m:Nat}{l:List (Nm×Nat)}{o:Oper}{a:Act}{K:Act->World->Prop}{Q:Exit->Act->World->Prop}(mo xo vo:Operand)(t:TypeId)(hop:o.op=Op.mapUpdate t mo xo vo)(hk:P.underlying k=some .string)(ht:P.underlying t=some (.map k e))(h:aF8 P k w m l)(hn:l.length<maxLen)(s:ByteArray)(hs:s.size<=maxLen)(g:Nat)
  (hm:a.eval mo=.map (some m)) (hx:a.eval xo=.string s) (hv:a.eval vo=.pointer (some ⟨g,0,none⟩)) (hK:∀w',aF8 P k w' m (aB7 s.data.toList g l)->w.grownBy w' (some m)->K (a.put o.dst undef) w'):o.wp P a w K Q:=bO6 mo xo vo t hop hk ht h hn s hs g hm hx hv hK
section
variable{w w1 w2 w' :World}{base g m:Nat}{p p' :PWD}{room:Int}{es:List (Nm×FE)}
theorem aB4.deleted(h:aB4 w base g m p room es){n:Nm}(hg:w.grownBy w' (some m))(hm:aF8 Tryz.prog 9 w' m (aC2 n (sec FE.blk es))):aB4 w' base g m p room (aC2 n es)∧Fr (aB1 g m es) w w' :=
 ⟨h.file_del hg hm,Fr.of_grown hg (fun k e=>by injection e with e;exact .inr (.inl e.symm))⟩
theorem bW8(h:aB4 w base g m p room es)(s:ByteArray)(hs:s.size<=140737488351232)(b1 b2:Nat)(h1:Blk w b1 26 #[.pointer (some ⟨g,0,none⟩)])(h2:Blk w b2 9 #[.string s]):
  Calls Tryz.prog 142 #[.pointer (some ⟨b1,0,none⟩),.pointer (some ⟨b2,0,none⟩)] w fun e w' =>e=.returned (.tuple #[])∧aB4 w' base g m p room (aC2 s.data.toList es)∧Fr (aB1 g m es) w w' :=by
 obtain⟨⟨c0,c1,c2,c3,c4,c5⟩,f0,f1,f2,f3⟩:=aL0 h.blk;have e1:w.cell? ⟨b1,0,none⟩=some (.pointer (some ⟨g,0,none⟩)):=h1.cell 0;have e2:w.cell? ⟨b2,0,none⟩=some (.string s):=h2.cell 0;have HM:=qZ h.map;have H:=qZ h;have b8:=qZ (show b1≠m∧b2≠m∧g≠m from⟨aL8 h1 h.map,aL8 h2 h.map,aL8 h.blk h.map⟩);clear h h1 h2;go_enter Tryz.func142,Tryz.ntmps142
 refine wp_region_held_drew (S:=fun W=>W.cell? ⟨b1,0,none⟩=some (.pointer (some ⟨g,0,none⟩))∧W.cell? ⟨b2,0,none⟩=some (.string s)∧W.cell? ⟨g,5,none⟩=some (.map (some m))∧True) (by kernel_rfl) ⟨e1,e2,c5,trivial⟩ (fun hHeld=>?_);refine zT 0 (k:=?_);refine zT 1 (k:=?_);refine zT 2 (k:=?_);refine zT 3 (k:=?_);refine zT 4 (k:=?_);simp only[zA,zB,zF,zG,zC,zD,zE];refine zV 5 (k:=fun K hK=>?_);simp only[zA,zB];rw[if_pos (by rfl)];refine bQ1 (.tmp 5) (.tmp 6) 59 rfl Tryz.underlying9 Tryz.underlying59 HM.out s (by unfold maxLen;omega) rfl rfl ?_;intro w1 d8 a8;have a9:w.grownBy w1 (some m):=⟨a8.os,a8.tape,a8.output,a8.size,a8.block⟩;have HD:=qZ (H.out.deleted a9 d8);refine hK.out _ _ ⟨(World.cell?_of_block (a9.block b1 (mI w ⟨b1,0,none⟩ e1) (fun e=>by injection e with e;exact b8.out.1 e))).trans e1,(World.cell?_of_block (a9.block b2 (mI w ⟨b2,0,none⟩ e2) (fun e=>by injection e with e;exact b8.out.2.1 e))).trans e2,(World.cell?_of_block (a9.block g (mI w ⟨g,5,none⟩ c5) (fun e=>by injection e with e;exact b8.out.2.2 e))).trans c5,trivial⟩ (fun hHeld=>?_);clear hK K;try simp only[zF,zG,zC,zD,zE]
 refine wpAnyH_done (by kernel_rfl) ?_ _;clear c0 c1 c2 c3 c4 c5 e1 e2 f0 f1 f2 f3 d8 a8 a9 hHeld;go_wp2;go_end0
 exact⟨rfl,HD.out⟩
theorem aB4.renamed(h:aB4 w base g m p room es){a b:Nm}{fe:FE}(ha:aB6 a es=some fe)(a9:w.grownBy w1 (some m))(h1:aB4 w1 base g m p room (aC2 a es))(hg:w1.grownBy w2 (some m))(hm:aF8 Tryz.prog 9 w2 m (aB7 b fe.blk (sec FE.blk (aC2 a es)))):
  aB4 w2 base g m p room (aB7 b fe (aC2 a es))∧Fr (aB1 g m es) w w2∧∀k,aB1 g m (aB7 b fe (aC2 a es)) k->aB1 g m es k∨w.heap.size<=k:=by
 have a8:=aC8 ha;have hf:Blk w fe.blk 83 #[fe.v,.int .i64 fe.f.safe]:=h.file _ a8;have d8:Got w base fe.v fe.f.b:=h.got _ a8;have d9:=aL8 hf h.map;have b8:∀k,k<w.heap.size->k≠m->w2.heap[k]? =w.heap[k]? :=fun k hk hn=>(hg.block k (Nat.lt_of_lt_of_le hk a9.size) (fun e=>hn (by injection e))).trans (a9.block k hk (fun e=>hn (by injection e)))
 refine⟨h1.file_new fe (fun q hq _=>h.apart q (a,fe) (aG8.1 hq).1 a8 (aG8.1 hq).2) hg.size ((b8 fe.blk hf.lt d9).trans hf) (d8.kept (fun k hk=>b8 k (d8.row.lt k hk) (fun e=>aS1 d8 h.map (by rw[hk,e]))) (Nat.le_trans a9.size hg.size)) (h.safe _ a8) (h.low.2.2 (a,fe) a8) hm (fun k hk hn=>hg.block k hk (fun e=>hn (by injection e))),?_,fun k hk=>?_⟩
 ·exact⟨hg.os.trans a9.os,hg.tape.trans a9.tape,hg.output.trans a9.output,Nat.le_trans a9.size hg.size,fun k hk hn=>b8 k hk (fun e=>hn (.inr (.inl e)))⟩
 rcases hk with hk|hk|⟨q,hq,hk⟩
 ·exact .inl (.inl hk)
 ·exact .inl (.inr (.inl hk))
 rcases asPut_mem' hq with rfl|⟨hq,_⟩
 ·exact .inl (.inr (.inr ⟨(a,fe),a8,hk⟩))
 exact .inl (.inr (.inr ⟨q,(aG8.1 hq).1,hk⟩))
theorem bV5(h:aB4 w base g m p room es)(s t:ByteArray)(hs:s.size<=140737488351232)(ht:t.size<=140737488351232){fe:FE}(f6:aB6 s.data.toList es=some fe)(b1 b2 b3 b4:Nat)(h1:Blk w b1 26 #[.pointer (some ⟨g,0,none⟩)])(h2:Blk w b2 9 #[.string s])(h3:Blk w b3 81 #[.pointer (some ⟨fe.blk,0,none⟩)])(h4:Blk w b4 9 #[.string t])(hl:es.length<4398046511104):
  Calls Tryz.prog 120 #[.pointer (some ⟨b1,0,none⟩),.pointer (some ⟨b2,0,none⟩),.pointer (some ⟨b3,0,none⟩),.pointer (some ⟨b4,0,none⟩)] w fun e w' =>e=.returned (.tuple #[])∧aB4 w' base g m p room (aB7 t.data.toList fe (aC2 s.data.toList es))∧Fr (aB1 g m es) w w' ∧∀k,aB1 g m (aB7 t.data.toList fe (aC2 s.data.toList es)) k->aB1 g m es k∨w.heap.size<=k:=by
 obtain⟨⟨c0,c1,c2,c3,c4,c5⟩,f0,f1,f2,f3⟩:=aL0 h.blk;have e1:w.cell? ⟨b1,0,none⟩=some (.pointer (some ⟨g,0,none⟩)):=h1.cell 0;have e2:w.cell? ⟨b2,0,none⟩=some (.string s):=h2.cell 0;have e3:w.cell? ⟨b3,0,none⟩=some (.pointer (some ⟨fe.blk,0,none⟩)):=h3.cell 0;have e4:w.cell? ⟨b4,0,none⟩=some (.string t):=h4.cell 0;have HM:=qZ h.map;have H:=qZ h;have b8:=qZ (show b1≠m∧b2≠m∧g≠m∧b3≠m∧b4≠m from⟨aL8 h1 h.map,aL8 h2 h.map,aL8 h.blk h.map,aL8 h3 h.map,aL8 h4 h.map⟩);have f8:=qZ f6;clear h h1 h2 h3 h4 f6;go_enter Tryz.func120,Tryz.ntmps120
 go_upto_region 0 with fail
 go_cut [] (fun wx=>Hid (aB4 wx base g m p room (aC2 s.data.toList es))∧Hid (w.grownBy wx (some m)))
 case first=>
  refine wp_region_held_drew (S:=fun W=>W.cell? ⟨b1,0,none⟩=some (.pointer (some ⟨g,0,none⟩))∧W.cell? ⟨b2,0,none⟩=some (.string s)∧W.cell? ⟨g,5,none⟩=some (.map (some m))∧True) (by kernel_rfl) ⟨e1,e2,c5,trivial⟩ (fun hHeld=>?_);refine zT 0 (k:=?_);refine zT 1 (k:=?_);refine zT 2 (k:=?_);refine zT 3 (k:=?_);refine zT 4 (k:=?_);simp only[zA,zB,zF,zG,zC,zD,zE];refine zV 5 (k:=fun K hK=>?_);simp only[zA,zB];rw[if_pos (by rfl)];refine bQ1 (.tmp 7) (.tmp 8) 59 rfl Tryz.underlying9 Tryz.underlying59 HM.out s (by unfold maxLen;omega) rfl rfl ?_;intro w1 d8 a9;have a8:w.grownBy w1 (some m):=⟨a9.os,a9.tape,a9.output,a9.size,a9.block⟩;have HD:=qZ (H.out.deleted a8 d8).1;have f9:=qZ a8;refine hK.out _ _ ⟨(World.cell?_of_block (a8.block b1 (mI w ⟨b1,0,none⟩ e1) (fun e=>by injection e with e;exact b8.out.1 e))).trans e1,(World.cell?_of_block (a8.block b2 (mI w ⟨b2,0,none⟩ e2) (fun e=>by injection e with e;exact b8.out.2.1 e))).trans e2,(World.cell?_of_block (a8.block g (mI w ⟨g,5,none⟩ c5) (fun e=>by injection e with e;exact b8.out.2.2.1 e))).trans c5,trivial⟩ (fun hHeld=>?_);clear hK K;try simp only[zF,zG,zC,zD,zE]
  refine wpAnyH_done (by kernel_rfl) ?_ _;clear c0 c1 c2 c3 c4 c5 e1 e2 e3 e4 f0 f1 f2 f3 d8 a9 a8 hHeld;go_wp2_with fail
  go_meet;exact⟨HD,f9⟩
 obtain⟨hD,hG⟩:=hcut;have d9:∀(q i:Nat) (u:Value),q≠m->w.cell? ⟨q,i,none⟩=some u->wc.cell? ⟨q,i,none⟩=some u:=fun q i u hq hc=>(World.cell?_of_block (w:=w) (hG.out.block q (mI w ⟨q,i,none⟩ hc) (fun e=>by injection e with e;exact hq e))).trans hc
 have d1:=d9 b1 0 _ b8.out.1 e1;have d3:=d9 b3 0 _ b8.out.2.2.2.1 e3;have d4:=d9 b4 0 _ b8.out.2.2.2.2 e4;have d5:=d9 g 5 _ b8.out.2.2.1 c5;have g8:=qZ hD.out.map;have f7:(sec FE.blk (aC2 s.data.toList es)).length<maxLen:=by
  rw[lU];have:=List.length_filter_le (fun p:Nm×FE=> !(p.1==s.data.toList)) es;unfold aC2 maxLen;omega
 clear c0 c1 c2 c3 c4 c5 e1 e2 e3 e4 f0 f1 f2 f3 d9;go_wp2_with fail
 refine wp_region_held_drew (S:=fun W=>W.cell? ⟨b1,0,none⟩=some (.pointer (some ⟨g,0,none⟩))∧W.cell? ⟨b3,0,none⟩=some (.pointer (some ⟨fe.blk,0,none⟩))∧W.cell? ⟨b4,0,none⟩=some (.string t)∧W.cell? ⟨g,5,none⟩=some (.map (some m))) (by kernel_rfl) ⟨d1,d3,d4,d5⟩ (fun hHeld=>?_);refine zT 0 (k:=?_);refine zT 1 (k:=?_);refine zT 2 (k:=?_);refine zT 3 (k:=?_);refine zT 4 (k:=?_);refine zT 5 (k:=?_);simp only[zA,zB,zF,zG,zC,zD,zE];refine zV 6 (k:=fun K hK=>?_);simp only[zA,zB];rw[if_pos (by rfl)];refine cF0 (.tmp 12) (.tmp 13) (.tmp 14) 59 rfl Tryz.underlying9 Tryz.underlying59 g8.out f7 t (by unfold maxLen;omega) fe.blk rfl rfl rfl ?_;intro w1 d8 a9;have a8:wc.grownBy w1 (some m):=⟨a9.os,a9.tape,a9.output,a9.size,a9.block⟩;have HD:=qZ (H.out.renamed f8.out hG.out hD.out a8 d8);refine hK.out _ _ ⟨(World.cell?_of_block (a8.block b1 (mI wc ⟨b1,0,none⟩ d1) (fun e=>by injection e with e;exact b8.out.1 e))).trans d1,(World.cell?_of_block (a8.block b3 (mI wc ⟨b3,0,none⟩ d3) (fun e=>by injection e with e;exact b8.out.2.2.2.1 e))).trans d3,(World.cell?_of_block (a8.block b4 (mI wc ⟨b4,0,none⟩ d4) (fun e=>by injection e with e;exact b8.out.2.2.2.2 e))).trans d4,(World.cell?_of_block (a8.block g (mI wc ⟨g,5,none⟩ d5) (fun e=>by injection e with e;exact b8.out.2.2.1 e))).trans d5⟩ (fun hHeld=>?_);clear hK K;try simp only[zF,zG,zC,zD,zE]
 refine wpAnyH_done (by kernel_rfl) ?_ _;clear d1 d3 d4 d5 d8 a9 a8 hHeld f7;go_wp2;go_end0
 exact⟨rfl,HD.out⟩
end
end
section
open Go.RowKit Go.Maps Go.Sort Oct
theorem cM4(n:Int):n.tmod 2=0↔n %2=0:=by
 have h1:=Int.mul_tdiv_add_tmod n 2;have h2:-2<n.tmod 2:=Int.lt_tmod_of_pos n (by omega);have h3:n.tmod 2<2:=Int.tmod_lt_of_pos n (by omega);omega
section
variable{w w1 w2 w' :World}{base g m:Nat}{p p' :PWD}{room:Int}{es:List (Nm×FE)}
theorem aB4.not_foot(h:aB4 w base g m p room es){b:Nat}{T:TypeId}{cs:Array Value}(hB:Blk w b T cs)(h1:T≠61)(h2:T≠83)(h3:T≠5):¬aB1 g m es b:=by
 rintro(e|e|⟨q,hq,e|e⟩)
 ·exact blk_ne hB h.blk h1 e
 ·exact aL8 hB h.map e
 ·exact blk_ne hB (h.file q hq) h2 e
 exact aF0 (h.got q hq) hB h3 e
theorem Fr.blk_{mine:Nat->Prop}(hf:Fr mine w w'){b:Nat}{T:TypeId}{cs:Array Value}(hB:Blk w b T cs)(hn:¬mine b):Blk w' b T cs:=(hf.block b hB.lt hn).trans hB
theorem aC0.step{es' :List (Nm×FE)}{d:DkD}(hf:Fr (aB1 g m es) w w1)(a8:∀k,aB1 g m es' k->aB1 g m es k∨w1.heap.size<=k)(h:aC0 w1 base g m es' d w2):aC0 w base g m es d w2:=by
 obtain⟨es2,h1,h2,h3,h4⟩:=h;refine⟨es2,h1,h2,hf.trans h3 (fun j hj=>by
  rcases a8 j hj with h5|h5
  ·exact .inl h5
  exact .inr (Nat.le_trans hf.size h5)),fun k hk=>?_⟩
 rcases h4 k hk with h5|h5
 ·rcases a8 k h5 with h6|h6
  ·exact .inl h6
  exact .inr (Nat.le_trans hf.size h6)
 exact .inr (Nat.le_trans hf.size h5)
theorem aC0.at_{es' :List (Nm×FE)}(h:aB4 w' base g m p room es')(hf:Fr (aB1 g m es) w w')(hfoot:∀k,aB1 g m es' k->aB1 g m es k∨w.heap.size<=k):aC0 w base g m es ⟨p,room,sec FE.f es'⟩ w' :=⟨es',h,rfl,hf,hfoot⟩
theorem dC2(h:aB4 w base g m p room es)(s:ByteArray)(hs:s.size<=140737488351232)(b1 b2:Nat)(h1:Blk w b1 26 #[.pointer (some ⟨g,0,none⟩)])(h2:Blk w b2 9 #[.string s]):
  Calls Tryz.prog 107 #[.pointer (some ⟨g,0,none⟩),.func (.func 142) #[] #[.pointer (some ⟨b1,0,none⟩),.pointer (some ⟨b2,0,none⟩)]] w fun e w' =>e=.returned (.int .i64 ((aD6 p room es).whole (aC2 s.data.toList (sec FE.f es))).1)∧aC0 w base g m es ((aD6 p room es).whole (aC2 s.data.toList (sec FE.f es))).2 w' :=by
 have hcut:=qZ (bC1 h);have HB:=qZ (And.intro h (And.intro h1 h2));obtain⟨c,hc⟩:∃c,c=p.cut:=⟨_,rfl⟩
 obtain⟨d8,part,p'⟩:=c;rw[<-hc] at hcut;have d9:∀w1,aB4 w1 base g m p' room es->Fr (aB1 g m es) w w1->Hid (Calls Tryz.prog 142 #[.pointer (some ⟨b1,0,none⟩),.pointer (some ⟨b2,0,none⟩)] w1 fun e w' =>e=.returned (.tuple #[])∧aC0 w base g m es ⟨p',room,aC2 s.data.toList (sec FE.f es)⟩ w'):=fun w1 hD hF=>qZ (by
  obtain⟨h,k0,k1⟩:=HB.out;refine(bW8 hD s hs b1 b2 (hF.blk_ k0 (h.not_foot k0 (by decide) (by decide) (by decide))) (hF.blk_ k1 (h.not_foot k1 (by decide) (by decide) (by decide)))).mono ?_;rintro e w' ⟨rfl,h4,h5⟩;refine⟨rfl,?_⟩;rw[<-aQ5];exact aC0.at_ h4 (hF.trans h5 (fun j hj=>.inl hj)) (fun k hk=>.inl (dE4 hk)))
 have a8:(if(d8=false∨part %2≠0) then True else True):=by split<;>trivial
 clear a8;cases d8 with
 |false=>
  have e:(aD6 p room es).whole (aC2 s.data.toList (sec FE.f es))=(0,⟨p',room,aC2 s.data.toList (sec FE.f es)⟩):=by unfold DkD.whole;rw[<-hc];simp
  rw[e];clear h e hc HB;go_enter Tryz.func107,Tryz.ntmps107
  go_wp2_with fail
  refine hcut.out.mono ?_;rintro e w1 ⟨rfl,hD,hF,b8⟩;have a8:=d9 w1 hD hF;clear hD hF b8 hcut d9;go_wp2_with fail
  refine a8.out.mono ?_;rintro e w2 ⟨rfl,hT⟩;have HT:=qZ hT;clear hT a8;go_wp2_with fail
  go_ret
  exact⟨rfl,HT.out⟩
 |true=>
  by_cases hp:part %2=0
  ·have e:(aD6 p room es).whole (aC2 s.data.toList (sec FE.f es))=(50,aD6 p' room es):=by unfold DkD.whole;rw[<-hc];simp[hp]
   rw[e];have a9:part.tmod 2=0:=(cM4 part).2 hp;have f6:(part.tmod 2 !=0)=false:=by simp[a9]
   clear h e hc HB d9 hp;go_enter Tryz.func107,Tryz.ntmps107
   go_wp2_with fail
   refine hcut.out.mono ?_;rintro e w1 ⟨rfl,hD,hF,b8⟩;have HT:=qZ (aC0.mk' hD hF);clear hD hF b8 hcut;go_wp2_with fail
   go_ret
   exact⟨rfl,HT.out⟩
  have e:(aD6 p room es).whole (aC2 s.data.toList (sec FE.f es))=(50,⟨p',room,aC2 s.data.toList (sec FE.f es)⟩):=by unfold DkD.whole;rw[<-hc];simp[hp]
  rw[e];have a9:¬part.tmod 2=0:=fun e=>hp ((cM4 part).1 e)
  have f6:(part.tmod 2 !=0)=true:=by simpa using a9
  clear h e hc HB hp;go_enter Tryz.func107,Tryz.ntmps107
  go_wp2_with fail
  refine hcut.out.mono ?_;rintro e w1 ⟨rfl,hD,hF,b8⟩;have a8:=d9 w1 hD hF;clear hD hF b8 hcut d9;go_wp2_with fail
  refine a8.out.mono ?_;rintro e w2 ⟨rfl,hT⟩;have HT:=qZ hT;clear hT a8;go_wp2_with fail
  go_ret
  exact⟨rfl,HT.out⟩
theorem dB2(h:aB4 w base g m p room es)(s t:ByteArray)(hs:s.size<=140737488351232)(ht:t.size<=140737488351232){fe:FE}(f6:aB6 s.data.toList es=some fe)(b1 b2 b3 b4:Nat)(h1:Blk w b1 26 #[.pointer (some ⟨g,0,none⟩)])(h2:Blk w b2 9 #[.string s])(h3:Blk w b3 81 #[.pointer (some ⟨fe.blk,0,none⟩)])(h4:Blk w b4 9 #[.string t])(hl:es.length<4398046511104):
  Calls Tryz.prog 107 #[.pointer (some ⟨g,0,none⟩),.func (.func 120) #[] #[.pointer (some ⟨b1,0,none⟩),.pointer (some ⟨b2,0,none⟩),.pointer (some ⟨b3,0,none⟩),.pointer (some ⟨b4,0,none⟩)]] w fun e w' =>e=.returned (.int .i64 ((aD6 p room es).whole (aB7 t.data.toList fe.f (aC2 s.data.toList (sec FE.f es)))).1)∧aC0 w base g m es ((aD6 p room es).whole (aB7 t.data.toList fe.f (aC2 s.data.toList (sec FE.f es)))).2 w' :=by
 have hcut:=qZ (bC1 h);have HB:=qZ (And.intro h (And.intro h1 (And.intro h2 (And.intro h3 h4))));obtain⟨c,hc⟩:∃c,c=p.cut:=⟨_,rfl⟩
 obtain⟨d8,part,p'⟩:=c;rw[<-hc] at hcut;have d9:∀w1,aB4 w1 base g m p' room es->Fr (aB1 g m es) w w1->Hid (Calls Tryz.prog 120 #[.pointer (some ⟨b1,0,none⟩),.pointer (some ⟨b2,0,none⟩),.pointer (some ⟨b3,0,none⟩),.pointer (some ⟨b4,0,none⟩)] w1 fun e w' =>e=.returned (.tuple #[])∧aC0 w base g m es ⟨p',room,aB7 t.data.toList fe.f (aC2 s.data.toList (sec FE.f es))⟩ w'):=fun w1 hD hF=>qZ (by
  obtain⟨h,k0,k1,k2,k3⟩:=HB.out;refine(bV5 hD s t hs ht f6 b1 b2 b3 b4 (hF.blk_ k0 (h.not_foot k0 (by decide) (by decide) (by decide))) (hF.blk_ k1 (h.not_foot k1 (by decide) (by decide) (by decide))) (hF.blk_ k2 (h.not_foot k2 (by decide) (by decide) (by decide))) (hF.blk_ k3 (h.not_foot k3 (by decide) (by decide) (by decide))) hl).mono ?_;rintro e w' ⟨rfl,h4,h5,h6⟩;refine⟨rfl,?_⟩;rw[<-aQ5,<-aJ2 FE.f];exact aC0.at_ h4 (hF.trans h5 (fun j hj=>.inl hj)) (fun k hk=>by
   rcases h6 k hk with h7|h7
   ·exact .inl h7
   exact .inr (Nat.le_trans hF.size h7)))
 have a8:(if(d8=false∨part %2≠0) then True else True):=by split<;>trivial
 clear a8;cases d8 with
 |false=>
  have e:(aD6 p room es).whole (aB7 t.data.toList fe.f (aC2 s.data.toList (sec FE.f es)))=(0,⟨p',room,aB7 t.data.toList fe.f (aC2 s.data.toList (sec FE.f es))⟩):=by unfold DkD.whole;rw[<-hc];simp
  rw[e];clear h e hc HB;go_enter Tryz.func107,Tryz.ntmps107
  go_wp2_with fail
  refine hcut.out.mono ?_;rintro e w1 ⟨rfl,hD,hF,b8⟩;have a8:=d9 w1 hD hF;clear hD hF b8 hcut d9;go_wp2_with fail
  refine a8.out.mono ?_;rintro e w2 ⟨rfl,hT⟩;have HT:=qZ hT;clear hT a8;go_wp2_with fail
  go_ret
  exact⟨rfl,HT.out⟩
 |true=>
  by_cases hp:part %2=0
  ·have e:(aD6 p room es).whole (aB7 t.data.toList fe.f (aC2 s.data.toList (sec FE.f es)))=(50,aD6 p' room es):=by unfold DkD.whole;rw[<-hc];simp[hp]
   rw[e];have a9:part.tmod 2=0:=(cM4 part).2 hp;have f7:(part.tmod 2 !=0)=false:=by simp[a9]
   clear h e hc HB d9 hp;go_enter Tryz.func107,Tryz.ntmps107
   go_wp2_with fail
   refine hcut.out.mono ?_;rintro e w1 ⟨rfl,hD,hF,b8⟩;have HT:=qZ (aC0.mk' hD hF);clear hD hF b8 hcut;go_wp2_with fail
   go_ret
   exact⟨rfl,HT.out⟩
  have e:(aD6 p room es).whole (aB7 t.data.toList fe.f (aC2 s.data.toList (sec FE.f es)))=(50,⟨p',room,aB7 t.data.toList fe.f (aC2 s.data.toList (sec FE.f es))⟩):=by unfold DkD.whole;rw[<-hc];simp[hp]
  rw[e];have a9:¬part.tmod 2=0:=fun e=>hp ((cM4 part).1 e)
  have f7:(part.tmod 2 !=0)=true:=by simpa using a9
  clear h e hc HB hp;go_enter Tryz.func107,Tryz.ntmps107
  go_wp2_with fail
  refine hcut.out.mono ?_;rintro e w1 ⟨rfl,hD,hF,b8⟩;have a8:=d9 w1 hD hF;clear hD hF b8 hcut d9;go_wp2_with fail
  refine a8.out.mono ?_;rintro e w2 ⟨rfl,hT⟩;have HT:=qZ hT;clear hT a8;go_wp2_with fail
  go_ret
  exact⟨rfl,HT.out⟩
end
end
section
open Go.RowKit Go.Maps Go.Sort Oct
section
variable{w w1 w2 w' :World}{base g m:Nat}{p p' :PWD}{room:Int}{es:List (Nm×FE)}
theorem cC7(h:aB4 w base g m p room es)(s:ByteArray)(hs:s.size<=140737488351232):
  Calls Tryz.prog 97 #[.pointer (some ⟨g,0,none⟩),.string s] w fun e w' =>e=.returned (.int .i64 ((aD6 p room es).remove s.data.toList).1)∧aC0 w base g m es ((aD6 p room es).remove s.data.toList).2 w' :=by
 have d8:=((lS w.heap.size w).alloc (lR _) (.cells #[.pointer (some ⟨g,0,none⟩)] 26)).alloc (by simp) (.cells #[.string s] 9);have d9:(w.alloc (.cells #[.pointer (some ⟨g,0,none⟩)] 26)).heap.size=w.heap.size+1:=by simp
 have b8:=(Blk.new w 26 #[.pointer (some ⟨g,0,none⟩)]).alloc (.cells #[.string s] 9);have a9:=Blk.new (w.alloc (.cells #[.pointer (some ⟨g,0,none⟩)] 26)) 9 #[.string s];rw[d9] at a9;have hA:=h.below d8;have e1:=b8.cell 0;have e2:=a9.cell 0;simp only[List.getElem?_toArray,List.getElem?_cons_zero] at e1 e2;have HB:=qZ (Fr.of_below (aB1 g m es) d8);have HK:=qZ (And.intro b8 a9);by_cases ho:p.off=true
 ·have e:(aD6 p room es).remove s.data.toList=(50,aD6 p room es):=by unfold DkD.remove;rw[if_pos ho]
  rw[e];have a8:=qZ (aV7 hA s hs ho);have HA:=qZ hA;clear h e hA d8 b8 a9 d9;go_enter Tryz.func97,Tryz.ntmps97
  go_wp2_with fail
  refine a8.out.mono ?_;rintro e w' ⟨rfl,rfl⟩;go_wp2_with fail
  go_ret
  exact⟨rfl,aC0.mk' HA.out HB.out⟩
 have f7:p.off=false:=by simpa using ho
 cases hg:aB6 s.data.toList es with
 |none=>
  have e:(aD6 p room es).remove s.data.toList=(51,aD6 p room es):=by unfold DkD.remove;rw[if_neg ho];simp only[aY2 hg]
  rw[e];have a8:=qZ (aU0 hA s hs hg f7);have HA:=qZ hA;clear h e hA d8 b8 a9 d9;go_enter Tryz.func97,Tryz.ntmps97
  go_wp2_with fail
  refine a8.out.mono ?_;rintro e w' ⟨rfl,rfl⟩;go_wp2_with fail
  go_ret
  exact⟨rfl,aC0.mk' HA.out HB.out⟩
 |some fe=>
  have e:(aD6 p room es).remove s.data.toList=(aD6 p room es).whole (aC2 s.data.toList (sec FE.f es)):=by unfold DkD.remove;rw[if_neg ho];simp only[aL5 hg]
  rw[e];have a8:=qZ (aR9 hA s hs hg f7);have f6:=qZ (dC2 hA s hs w.heap.size (w.heap.size+1) b8 a9);obtain⟨R,hR⟩:∃R,R=(aD6 p room es).whole (aC2 s.data.toList (sec FE.f es)):=⟨_,rfl⟩
  rw[<-hR] at f6⊢;clear h e hA d8 b8 a9 d9 hg ho f7 hR;go_enter Tryz.func97,Tryz.ntmps97
  go_wp2_with fail
  refine a8.out.mono ?_;rintro e w' ⟨rfl,rfl⟩;go_wp2_with fail
  refine f6.out.mono ?_;rintro e w1 ⟨rfl,hT⟩;have HT:=qZ (aC0.step HB.out (fun k hk=>.inl hk) hT);clear hT f6 a8;go_wp2_with fail
  go_ret
  exact⟨rfl,HT.out⟩
theorem nameB_false{t:Nm}(h:bD4 t=false):t=[]∨32<t.length:=by
 by_cases h0:t=[]
 ·exact .inl h0
 right
 unfold bD4 at h;simp[h0] at h
 exact h
theorem bQ0{t:Nm}(h:bD4 t=true):¬t=[]∧¬32<t.length:=by
 unfold bD4 at h;simp at h
 exact⟨h.1,by omega⟩
theorem cF5(h:aB4 w base g m p room es)(s t:ByteArray)(hs:s.size<=140737488351232)(ht:t.size<=140737488351232)(hl:es.length<4398046511104):
  Calls Tryz.prog 71 #[.pointer (some ⟨g,0,none⟩),.string s,.string t] w fun e w' =>e=.returned (.int .i64 ((aD6 p room es).rename s.data.toList t.data.toList).1)∧aC0 w base g m es ((aD6 p room es).rename s.data.toList t.data.toList).2 w' :=by
 have f6:=(((lS w.heap.size w).alloc (lR _) (.cells #[.pointer (some ⟨g,0,none⟩)] 26)).alloc (by simp) (.cells #[.string s] 9)).alloc (by simp;omega) (.cells #[.string t] 9);have f9:(w.alloc (.cells #[.pointer (some ⟨g,0,none⟩)] 26)).heap.size=w.heap.size+1:=by simp
 have a9:((w.alloc (.cells #[.pointer (some ⟨g,0,none⟩)] 26)).alloc (.cells #[.string s] 9)).heap.size=w.heap.size+1+1:=by simp
 have f7:=((Blk.new w 26 #[.pointer (some ⟨g,0,none⟩)]).alloc (.cells #[.string s] 9)).alloc (.cells #[.string t] 9);have d8:=(Blk.new (w.alloc (.cells #[.pointer (some ⟨g,0,none⟩)] 26)) 9 #[.string s]).alloc (.cells #[.string t] 9);have d9:=Blk.new ((w.alloc (.cells #[.pointer (some ⟨g,0,none⟩)] 26)).alloc (.cells #[.string s] 9)) 9 #[.string t];have b8:(((w.alloc (.cells #[.pointer (some ⟨g,0,none⟩)] 26)).alloc (.cells #[.string s] 9)).alloc (.cells #[.string t] 9)).heap.size=w.heap.size+1+1+1:=by simp
 rw[f9] at d8;rw[a9] at d9;have hA:=h.below f6;have e1:=f7.cell 0;have e2:=d8.cell 0;have e3:=d9.cell 0;simp only[List.getElem?_toArray,List.getElem?_cons_zero] at e1 e2 e3;have HB:=qZ (Fr.of_below (aB1 g m es) f6);by_cases ho:p.off=true
 ·have e:(aD6 p room es).rename s.data.toList t.data.toList=(50,aD6 p room es):=by unfold DkD.rename;rw[if_pos ho]
  rw[e];have a8:=qZ (aV7 hA s hs ho);have HA:=qZ (aC0.step HB.out (fun k hk=>.inl hk) (aC0.mk' (hA.below ((lS _ _).alloc (lR _) (.cells #[.pointer none] 81))) (Fr.of_below _ ((lS _ _).alloc (lR _) _))));clear h e hA f6 f7 d8 d9 f9 a9 b8;go_enter Tryz.func71,Tryz.ntmps71
  go_wp2_with fail
  refine a8.out.mono ?_;rintro e w' ⟨rfl,rfl⟩;go_wp2_with fail
  go_ret
  exact⟨rfl,HA.out⟩
 have g9:p.off=false:=by simpa using ho
 cases hg:aB6 s.data.toList es with
 |none=>
  have e:(aD6 p room es).rename s.data.toList t.data.toList=(51,aD6 p room es):=by unfold DkD.rename;rw[if_neg ho];simp only[aY2 hg]
  rw[e];have a8:=qZ (aU0 hA s hs hg g9);have HA:=qZ (aC0.step HB.out (fun k hk=>.inl hk) (aC0.mk' (hA.below ((lS _ _).alloc (lR _) (.cells #[.pointer none] 81))) (Fr.of_below _ ((lS _ _).alloc (lR _) _))));clear h e hA f6 f7 d8 d9 f9 a9 b8;go_enter Tryz.func71,Tryz.ntmps71
  go_wp2_with fail
  refine a8.out.mono ?_;rintro e w' ⟨rfl,rfl⟩;go_wp2_with fail
  go_ret
  exact⟨rfl,HA.out⟩
 |some fe=>
  have a8:=qZ (aR9 hA s hs hg g9);have g8:=(lS _ (((w.alloc (.cells #[.pointer (some ⟨g,0,none⟩)] 26)).alloc (.cells #[.string s] 9)).alloc (.cells #[.string t] 9))).alloc (lR _) (.cells #[.pointer (some ⟨fe.blk,0,none⟩)] 81);have hF:=hA.below g8;have f8:=qZ (bV4 t ((((w.alloc (.cells #[.pointer (some ⟨g,0,none⟩)] 26)).alloc (.cells #[.string s] 9)).alloc (.cells #[.string t] 9)).alloc (.cells #[.pointer (some ⟨fe.blk,0,none⟩)] 81)) ht);have HF:=qZ (HB.out.trans (Fr.of_below (aB1 g m es) g8) (fun j hj=>.inl hj));have g1:=(f7.alloc (.cells #[.pointer (some ⟨fe.blk,0,none⟩)] 81));have g2:=(d8.alloc (.cells #[.pointer (some ⟨fe.blk,0,none⟩)] 81));have g3:=(d9.alloc (.cells #[.pointer (some ⟨fe.blk,0,none⟩)] 81));have g4:=Blk.new (((w.alloc (.cells #[.pointer (some ⟨g,0,none⟩)] 26)).alloc (.cells #[.string s] 9)).alloc (.cells #[.string t] 9)) 81 #[.pointer (some ⟨fe.blk,0,none⟩)];rw[b8] at g4;have d1:=g1.cell 0;have d2:=g2.cell 0;have d3:=g3.cell 0;have d4:=g4.cell 0;simp only[List.getElem?_toArray,List.getElem?_cons_zero] at d1 d2 d3 d4;cases hnb:bD4 t.data.toList with
  |false=>
   have e:(aD6 p room es).rename s.data.toList t.data.toList=(1,aD6 p room es):=by
    unfold DkD.rename;rw[if_neg ho];simp only[aL5 hg];rw[if_pos];rcases nameB_false hnb with h1|h1
    ·exact .inl h1
    exact .inr (.inl h1)
   rw[e];rw[hnb] at f8;have HT:=qZ (aC0.mk' hF HF.out);clear h e hA f6 f7 d8 d9 f9 a9 b8 g8 hF g1 g2 g3 g4 hg ho g9 hnb;go_enter Tryz.func71,Tryz.ntmps71
   go_wp2_with fail
   refine a8.out.mono ?_;rintro e w' ⟨rfl,rfl⟩;go_wp2_with fail
   refine f8.out.mono ?_;rintro e w' ⟨rfl,rfl⟩;go_wp2_with fail
   go_ret
   exact⟨rfl,HT.out⟩
  |true=>
   rw[hnb] at f8;obtain⟨n1,n2⟩:=bQ0 hnb;by_cases hst:s.data.toList=t.data.toList
   ·have i6:s=t:=WideShapes.bytes_inj hst
    have e:(aD6 p room es).rename s.data.toList t.data.toList=(1,aD6 p room es):=by
     unfold DkD.rename;rw[if_neg ho];simp only[aL5 hg];rw[if_pos (.inr (.inr hst))]
    rw[e];have HT:=qZ (aC0.mk' hF HF.out);subst i6;clear h e hA f6 f7 d8 d9 f9 a9 b8 g8 hF g1 g2 g3 g4 hg ho g9 hnb n1 n2 hst;go_enter Tryz.func71,Tryz.ntmps71
    go_wp2_with fail
    refine a8.out.mono ?_;rintro e w' ⟨rfl,rfl⟩;go_wp2_with fail
    refine f8.out.mono ?_;rintro e w' ⟨rfl,rfl⟩;go_wp2_with fail
    go_ret
    exact⟨rfl,HT.out⟩
   have j6:(s.toList==t.toList)=false:=by
    rw[toList_eq,toList_eq]
    simpa using hst
   have e:(aD6 p room es).rename s.data.toList t.data.toList=(aD6 p room es).whole (aB7 t.data.toList fe.f (aC2 s.data.toList (sec FE.f es))):=by
    unfold DkD.rename;rw[if_neg ho];simp only[aL5 hg];rw[if_neg];rintro(h1|h1|h1)
    ·exact n1 h1
    ·exact n2 h1
    exact hst h1
   rw[e];have i4:=qZ (dB2 hF s t hs ht hg w.heap.size (w.heap.size+1) (w.heap.size+1+1+1) (w.heap.size+1+1) g1 g2 g4 g3 hl);obtain⟨R,hR⟩:∃R,R=(aD6 p room es).whole (aB7 t.data.toList fe.f (aC2 s.data.toList (sec FE.f es))):=⟨_,rfl⟩
   rw[<-hR] at i4⊢;clear h e hA f6 f7 d8 d9 f9 a9 b8 g8 hF g1 g2 g3 g4 hg ho g9 hnb n1 n2 hst hR;go_enter Tryz.func71,Tryz.ntmps71
   go_wp2_with fail
   refine a8.out.mono ?_;rintro e w' ⟨rfl,rfl⟩;go_wp2_with fail
   refine f8.out.mono ?_;rintro e w' ⟨rfl,rfl⟩;go_wp2_with fail
   refine i4.out.mono ?_;rintro e w1 ⟨rfl,hT⟩;have HT:=qZ (aC0.step HF.out (fun k hk=>.inl hk) hT);clear hT i4 a8 f8;go_wp2_with fail
   go_ret
   exact⟨rfl,HT.out⟩
end
end
section
open Go.RowKit Oct
theorem bF1{T:TypeId}{g:Nat}:∀(vs:List Value) (o:Nat) (w:World) (cur:Array Value),Blk w g T cur->∃cur',Blk (w.setCells g o vs) g T cur' ∧cur'.size=cur.size∧(∀j,j<o->cur'[j]? =cur[j]?)∧(∀j (hj:j<vs.length),o+vs.length<=cur.size->cur'[o+j]? =some vs[j])
 |[],o,w,cur,h=>⟨cur,h,rfl,fun _ _=>rfl,fun j hj=>absurd hj (by simp)⟩
 |v::r,o,w,cur,h=>by
  obtain⟨cur',h1,h2,h3,h4⟩:=bF1 r (o+1) (w.setCell ⟨g,o,none⟩ v) _ (Blk.set_ h o v);refine⟨cur',h1,by rw[h2];simp,fun j hj=>?_,fun j hj hs=>?_⟩
  ·rw[h3 j (by omega),Array.getElem?_setIfInBounds,if_neg (by omega)]
  cases j with
  |zero=>
   rw[Nat.add_zero,h3 o (by omega),Array.getElem?_setIfInBounds,if_pos rfl,if_pos (by simp at hs;omega)]
   rfl
  |succ j=>
   have h5:=h4 j (by simpa using hj) (by simp at hs⊢;omega);rw[show o+(j+1)=o+1+j by omega,h5]
   rfl
theorem aX9(g:Nat):∀(vs:List Value) (o:Nat) (w:World),w.grownBy (w.setCells g o vs) (some g)
 |[],o,w=>aA5 (lS _ _) _
 |v::r,o,w=>aA4 (aA0 w g o v) (aX9 g r (o+1) _) (.inl rfl)
theorem bN8{w:World}(ty:TypeId)(base:Nat)(v:Value)(l:List UInt8)(d8:Got w base v l)(B:Nat)(A:Option Addr)(c:Nat)(q:List UInt8)(m6:Rd w B A (cells q))(m5:l.length+q.length<=1099511627776)(f6:base<=w.heap.size):
  ∃v' w',(Builtin.append_ #[34,34] ty #[v,.slice A q.length c]).run Tryz.prog w=.ok v' w' ∧Got w' base v' (l++q)∧w.grownBy w' v.ownBlock∧(∀k,v'.ownBlock=some k->v.ownBlock=some k∨w.heap.size<=k):=by
 obtain⟨i,hi,hz,a8,l7⟩:=info_parts aC6;have g8:∀u∈cells q,u.oneCell' =true:=aE2 q
 rcases Nat.eq_zero_or_pos q.length with h0|h0
 ·have hq:q=[]:=mD h0
  subst hq;refine⟨v,w,?_,by simpa using d8,aA5 (lS _ _) _,fun k hk=>.inl hk⟩;rcases d8.row with hv|⟨g',n,cap,l5,hv,_,_,_,l6,_⟩
  ·subst hv
   cases A<;>simp[Builtin.append_,run_underlying Tryz.underlying34,sizeOf,typeInfo,hi,Builtin.lenOf,Builtin.firstCells,loadCells,loadCellsFrom]
  subst hv;cases A<;>simp[Builtin.append_,run_underlying Tryz.underlying34,sizeOf,typeInfo,hi,Builtin.lenOf,Builtin.firstCells,l6,storeCells,loadCells,loadCellsFrom]
 obtain⟨ad,rfl,_,hc⟩:=m6 (by rw[aA1];exact h0);have j9:(cells q).length=q.length*1:=by rw[aA1,Nat.mul_one]
 obtain⟨A0,c0,l4,m3,f8,f9⟩:=d8.shape;rcases d8.row with hv|⟨g',n,cap,l5,hv,l9,d9,g9,l6,j8⟩
 ·have m7:l=[]:=by
   rw[l4] at hv;injection hv with _ hv _
   exact mD hv
  subst m7;subst hv;obtain⟨v',w',a9,h2,h3,_⟩:=run_append_own (P:=Tryz.prog) w w.heap.size 34 ty 5 i (.int .u8 0) 1 1 Tryz.underlying34 hi hz a8 l7 rfl (by decide) (.slice none 0 0) 0 [] (World.ownsRow_nil _ _ _ _) ad q.length c (cells q) j9 hc g8 (by unfold maxLen;omega) (by omega) (lR _);have b8:Bs w' w.heap.size v' q:=by unfold Bs Own;rw[aA1];simpa using h2
  refine⟨v',w',a9,by simpa using(Got.of_own b8).mono f6,h3,fun k hk=>.inr ?_⟩;exact(World.ownsRow.lt b8 k hk).1
 have m2:=l4.symm.trans hv;injection m2 with e1 e2 e3
 subst e1 e2 e3;subst l4;by_cases hroom:l.length+q.length<=c0
 ·have m0:∀j,j<(cells q).length->(w.cell? ⟨g',0+l.length*i.size+j,none⟩).isSome=true:=fun j hj=>by
   rw[a8,Nat.zero_add,Nat.mul_one,d9.cell,Array.getElem?_eq_getElem (by rw[aA1] at hj;omega)]
   rfl
  have a9:=run_append_room_cells (P:=Tryz.prog) w 34 ty 5 i Tryz.underlying34 hi g' 0 l.length c0 ad q.length c (cells q) (by rw[a8];exact j9) hc g8 hroom m0 (fun j hj=>d9.frozen _);rw[a8,Nat.zero_add,Nat.mul_one] at a9;obtain⟨i4,k1,k2,k3,k4⟩:=bF1 (cells q) l.length w l5 d9;have l8:=aX9 g' (cells q) l.length w;refine⟨_,_,a9,⟨⟨some ⟨g',0,none⟩,c0,by rw[lT],by rw[lT];exact hroom,f8,fun _=>⟨_,rfl,k1.lt,fun j u hj=>?_⟩⟩,.inr ⟨g',_,c0,i4,rfl,l9,k1,by rw[k2];exact g9,by omega,j8⟩⟩,by simpa[Value.ownBlock] using l8,fun k hk=>.inl (by simpa[Value.ownBlock] using hk)⟩;rw[Addr.add_lit,Nat.zero_add,k1.cell];have m8:j<l.length+q.length:=by
   have:=(List.getElem?_eq_some_iff.1 hj).1
   simpa[cells] using this
  by_cases hjn:j<l.length
  ·rw[k3 j hjn]
   have h5:(cells l)[j]? =some u:=by rw[<-hj];simp only[cells,mE];rw[List.getElem?_append_left (by rw[lU];exact hjn)]
   obtain⟨m4,f7,_,i6⟩:=f9 (by rw[aA1];omega);injection f7 with f7
   subst f7;have h6:=i6 j u h5;rw[Addr.add_lit,Nat.zero_add,d9.cell] at h6;exact h6
  have h5:=k4 (j-l.length) (by rw[aA1];omega) (by rw[aA1];omega);rw[show l.length+(j-l.length)=j by omega] at h5;rw[h5,<-hj];simp only[cells,mE];rw[List.getElem?_append_right (by rw[lU];omega),lU,<-lW]
 have j6:∀j u,(cells l)[j]? =some u->w.cell? ((⟨g',0,none⟩:Addr).add j)=some u:=fun j u hj=>by
  obtain⟨m4,f7,_,i6⟩:=f9 (by
   have:=(List.getElem?_eq_some_iff.1 hj).1;omega)
  injection f7 with f7
  subst f7;exact i6 j u hj
 obtain⟨v',w',a9,r1,r2⟩:=run_append_arg_grows (P:=Tryz.prog) w 34 ty 5 i (.int .u8 0) 1 1 Tryz.underlying34 hi hz a8 l7 rfl (by decide) ⟨g',0,none⟩ l.length c0 (cells l) (by rw[aA1,Nat.mul_one]) j6 ad q.length c (cells q) j9 hc (by omega) (by unfold maxLen;omega) (by omega);have e:cells l++cells q=cells (l++q):=by simp[cells]
 rw[e] at r1;have b8:Bs w' w.heap.size v' (l++q):=by unfold Bs Own;rw[aA1,lT];exact r1
 exact⟨v',w',a9,(Got.of_own b8).mono f6,aA5 (aH1 r2) _,fun k hk=>.inr (World.ownsRow.lt b8 k hk).1⟩
theorem aX8{w:World}{o:Oper}{a:Act}{K:Act->World->Prop}{Q:Exit->Act->World->Prop}(s x:Operand)
  (ho:o.op=.call {callee:=.builtin .append,args:=#[s,x],argTypes:=#[34,34]})
  (base:Nat) (v:Value) (l:List UInt8) (hs:a.eval s=v) (a9:Got w base v l) (B:Nat) (A:Option Addr) (c:Nat) (q:List UInt8) (hx:a.eval x=.slice A q.length c) (d9:Rd w B A (cells q)) (d8:l.length+q.length<=1099511627776) (a8:base<=w.heap.size)
  (h:∀v' w',Got w' base v' (l++q)->w.grownBy w' v.ownBlock->(∀k,v'.ownBlock=some k->v.ownBlock=some k∨w.heap.size<=k)->K (a.put o.dst v') w'):o.wp Tryz.prog a w K Q:=by
 obtain⟨v',w',b8,h1,h2,h3⟩:=bN8 o.type base v l a9 B A c q d9 d8 a8;unfold Oper.wp execOp;simp only[ho,resolve,invoke,builtin,Sem.run_bind,Sem.run_pure,Result.andThen_ok,List.map_toArray,mG,List.map_nil,hs,hx,b8];exact h v' w' h1 h2 h3
end
section
open Go.RowKit Go.Maps Go.Sort Oct
theorem bY9{left:Int}{ps:List Row}{k:Nat}(hk:k<ps.length):fits left ((ps.drop k).map Row.l)=(decide ((ps[k].l.length:Int)<=left)&&fits (left-ps[k].l.length) ((ps.drop (k+1)).map Row.l)):=by
 rw[<-List.getElem_cons_drop hk,mG,fits]
theorem dF3(p:PWD)(h:-9223372036854775808<=p.part∧p.part<=9223372036854775807):-9223372036854775808<=p.cut.2.1∧p.cut.2.1<=9223372036854775807:=by
 unfold PWD.cut;split
 ·exact⟨by show(-9223372036854775808:Int)<=0;decide,by show(0:Int)<=_;decide⟩
 split
 ·exact⟨by show(-9223372036854775808:Int)<=0;decide,by show(0:Int)<=_;decide⟩
 exact h
section
variable{w w1 w2 w' :World}{base g m:Nat}{p p' :PWD}{room:Int}{es:List (Nm×FE)}
structure dI1(w w3:World)(base g m:Nat)(p' :PWD)(room:Int)(es:List (Nm×FE))(n:Nm)(es1:List (Nm×FE))(fe:FE):Prop where
 at_:aB4 w3 base g m p' room es1
 fr:Fr (aB1 g m es) w w3
 foot:∀k,aB1 g m es1 k->aB1 g m es k∨w.heap.size<=k
 got:aB6 n es1=some fe
 f:fe.f=(aB6 n (sec FE.f es)).getD ⟨[],0⟩
 fs:∀f',aB7 n f' (sec FE.f es1)=aB7 n f' (sec FE.f es)
theorem aC0.step2{es' :List (Nm×FE)}{d:DkD}(hf:Fr (aB1 g m es) w w1)(a8:∀k,aB1 g m es' k->aB1 g m es k∨w.heap.size<=k)(h:aC0 w1 base g m es' d w2):aC0 w base g m es d w2:=by
 obtain⟨es2,h1,h2,h3,h4⟩:=h;refine⟨es2,h1,h2,hf.trans h3 a8,fun k hk=>?_⟩;rcases h4 k hk with h5|h5
 ·exact a8 k h5
 exact .inr (Nat.le_trans hf.size h5)
theorem dD3(part:Int)(l:List UInt8):(cG6 part l).length<=l.length:=by
 unfold cG6;rw[lV];omega
theorem dB5{n:Nm}(h:∀q∈es,q.2.f.b.length<=549755813888):((aB6 n (sec FE.f es)).getD ⟨[],0⟩).b.length<=549755813888:=by
 cases hg:aB6 n es with
 |none=>rw[aY2 hg];exact Nat.zero_le _
 |some fe=>rw[aL5 hg];exact h _ (aC8 hg)
theorem cY5(n:Nm){α:Type}(b:α)(l:List (Nm×α)):aC2 n (asIns (n,b) l)=aC2 n l:=by
 induction l with
 |nil=>simp[asIns,aC2]
 |cons y r ih=>
  unfold asIns;split
  ·simp[aC2]
  unfold aC2 at ih⊢;rw[List.filter_cons,List.filter_cons,ih]
theorem cU8(n:Nm){α:Type}(l:List (Nm×α)):aC2 n (aC2 n l)=aC2 n l:=by
 unfold aC2;rw[List.filter_filter]
 congr 1
 funext p
 simp
theorem bW5(n:Nm){α:Type}(a b:α)(l:List (Nm×α)):aB7 n a (aB7 n b l)=aB7 n a l:=by
 unfold aB7;rw[cY5,cU8]
theorem aV6(n:Nm){α:Type}(a:α)(l:List (Nm×α)):aB6 n (aB7 n a l)=some a:=by
 unfold aB7 aB6;have key:∀r:List (Nm×α),(∀p∈r,(p.1==n)=false)->(asIns (n,a) r).find? (fun p=>p.1==n)=some (n,a):=by
  intro r;induction r with
  |nil=>intro _;simp[asIns]
  |cons y r ih=>
   intro hr;unfold asIns;split
   ·rw[List.find?_cons_of_pos (by simp)]
   rw[List.find?_cons_of_neg (by rw[hr y (List.mem_cons_self ..)];simp)];exact ih fun p hp=>hr p (List.mem_cons_of_mem _ hp)
 rw[key _ (fun p hp=>by have:=(aG8.1 hp).2;simpa using this)]
 rfl
theorem dJ4{w3 wB w4:World}(h:aB4 w3 base g m p' room es)(hf:Fr (aB1 g m es) w w3)(hb:Below w3.heap.size w3 wB)(hK:Blk wB w3.heap.size 83 #[.slice none 0 0,.int .i64 0]){n:Nm}(hn:aB6 n es=none)(hm:aF8 Tryz.prog 9 w4 m (aB7 n w3.heap.size (sec FE.blk es)))(hg:wB.grownBy w4 (some m)):
  dI1 w w4 base g m p' room es n (aB7 n ⟨w3.heap.size,.slice none 0 0,⟨[],0⟩⟩ es) ⟨w3.heap.size,.slice none 0 0,⟨[],0⟩⟩:=by
 have hB:=h.below hb;have a9:=h.map.lt;have a8:Blk w4 w3.heap.size 83 #[.slice none 0 0,.int .i64 0]:=hK.grown hg (fun e=>by injection e with e;omega);refine⟨hB.file_new ⟨w3.heap.size,.slice none 0 0,⟨[],0⟩⟩ (fun q hq _=>⟨fun e=>?_,fun k _ e=>by cases e⟩) hg.size a8 ⟨⟨none,0,rfl,lR _,by decide,Rd.none_⟩,.inl rfl⟩ (lR _) ?_ hm (fun k hk hn=>hg.block k hk (fun e=>hn (by injection e))),?_,fun k hk=>?_,aV6 _ _ _,?_,fun f' =>by rw[aJ2,bW5]⟩
 ·have h1:=(h.file q hq).lt
  have e' :q.2.blk=w3.heap.size:=e;omega
 ·have h1:=h.low.1
  have h2:=h.blk.lt;show base<=w3.heap.size
  omega
 ·refine hf.trans (mine' :=aB1 g m es) ⟨hg.os.trans hb.os,hg.tape.trans hb.tape,hg.output.trans hb.output,Nat.le_trans hb.size hg.size,fun k hk hnn=>?_⟩ (fun j hj=>.inl hj)
  exact(hg.block k (Nat.lt_of_lt_of_le hk hb.size) (fun e=>hnn (by injection e with e;exact .inr (.inl e)))).trans (hb.block k hk)
 ·refine bH2 hk (fun e=>.inr ?_) (fun e=>by cases e)
  have e' :w3.heap.size=k:=e;have:=hf.size;omega
 rw[aY2 hn];rfl
theorem dM1{P:Program}{t:TypeId}{w3 wB w4:World}{A:Option Addr}{xs:List Value}{l:List (Nm×Nat)}(h:Rd w3 w3.heap.size A xs)(hb:Below w3.heap.size w3 wB)(hg:wB.grownBy w4 (some m))(hm:aF8 P t w3 m l):Rd w4 w4.heap.size A xs:=by
 intro hn;obtain⟨ad,e1,e2,e3⟩:=h hn;refine⟨ad,e1,by have:=hb.size;have:=hg.size;omega,fun j u hj=>?_⟩;have h1:=e3 j u hj;have a9:ad.block≠m:=fun e=>by
  obtain⟨b8,a8,h2,_⟩:=hm;unfold World.cell? at h1;rw[aC7,e,h2] at h1;split at h1<;>simp_all
 exact(World.cell?_of_block (w:=wB) (by rw[aC7];exact hg.block ad.block (by have:=hb.size;omega) (fun e=>by injection e with e;exact a9 e))).trans ((hb.cell (by rw[aC7];exact e2)).trans h1)
theorem bM3(h:aB4 w base g m p room es)(s:ByteArray)(hs:s.size<=140737488351232)(A:Option Addr)(ps:List Row)(c:Nat)(o5:Rd w w.heap.size A (ps.map Row.val))(hp:RRd w w.heap.size ps)(B8:ps.length<=c)(D9:ps.length<=1000000000)(x4:(aE9 ps).length<=274877906944)
  (n8:∀q∈es,q.2.f.b.length<=549755813888) (C1:aB8 (sec FE.f es)<=4611686018427387904) (hl:es.length<4398046511104):
  Calls Tryz.prog 10 #[.pointer (some ⟨g,0,none⟩),.string s,.slice A ps.length c] w fun e w' =>e=.returned (.int .i64 ((aD6 p room es).append s.data.toList (ps.map Row.l)).1)∧aC0 w base g m es ((aD6 p room es).append s.data.toList (ps.map Row.l)).2 w' :=by
 have H:=qZ h;obtain⟨⟨c0,c1,c2,c3,c4,c5⟩,f0,f1,f2,f3⟩:=aL0 h.blk;obtain⟨E8,C4,D7,D4⟩:=h.num;have m9:=qZ (bV4 s w hs);have E7:=aD7 (sec FE.f es);obtain⟨R,hR⟩:∃R,R=(aD6 p room es).append s.data.toList (ps.map Row.l):=⟨_,rfl⟩
 rw[<-hR];cases ho:p.off with
 |true=>
  have e:R=(50,aD6 p room es):=by rw[hR];unfold DkD.append;rw[if_pos ho]
  have HE:=qZ e;rw[ho] at c0;clear h hR e ho o5 hp n8;go_enter Tryz.func10,Tryz.ntmps10
  go_wp2_with fail
  go_ret
  exact⟨by rw[HE.out];rfl,by rw[HE.out];exact aC0.mk' H.out (Fr.refl _ _)⟩
 |false=>
  have m8:¬p.off=true:=by rw[ho];simp
  rw[ho] at c0;cases hnb:bD4 s.data.toList with
  |false=>
   have e:R=(1,aD6 p room es):=by
    rw[hR];unfold DkD.append;rw[if_neg m8,if_pos (nameB_false hnb)]
   have HE:=qZ e;rw[hnb] at m9;clear h hR e ho m8 hnb o5 hp n8;go_enter Tryz.func10,Tryz.ntmps10
   go_wp2_with fail
   refine m9.out.mono ?_;rintro e w' ⟨rfl,rfl⟩;go_wp2_with fail
   go_ret
   exact⟨by rw[HE.out];rfl,by rw[HE.out];exact aC0.mk' H.out (Fr.refl _ _)⟩
  |true=>
   obtain⟨n1,n2⟩:=bQ0 hnb;have l4:¬(s.data.toList=[]∨32<s.data.toList.length):=fun e=>e.elim n1 n2
   have z8:Hid (fits (room-aB8 (sec FE.f es)) (ps.map Row.l)=false->R=(52,aD6 p room es)):=qZ fun hf=>by
    rw[hR];unfold DkD.append;rw[if_neg m8,if_neg l4,if_pos (show fits (aD6 p room es).free _=false from hf)]
   have t4:Hid (fits (room-aB8 (sec FE.f es)) (ps.map Row.l)=true->R=(if p.cut.1=true then 50 else 0,⟨p.cut.2.2,room,aB7 s.data.toList ⟨((aB6 s.data.toList (sec FE.f es)).getD ⟨[],0⟩).b++(if p.cut.1=true then cG6 p.cut.2.1 (aE9 ps) else aE9 ps),((aB6 s.data.toList (sec FE.f es)).getD ⟨[],0⟩).safe⟩ (sec FE.f es)⟩)):=qZ fun hf=>by
    rw[hR];unfold DkD.append;rw[if_neg m8,if_neg l4,if_neg (by rw[show(aD6 p room es).free=room-aB8 (sec FE.f es) from rfl,hf];simp)]
    rfl
   rw[hnb] at m9;have x8:=qZ (bR8 h C1);have l8:=qZ (And.intro o5 (And.intro hp n8));clear h hR ho m8 hnb o5 hp n8 n1 n2 l4;go_enter Tryz.func10,Tryz.ntmps10
   go_wp2_with fail
   refine m9.out.mono ?_;rintro e w' ⟨rfl,rfl⟩;go_wp2_with fail
   refine x8.out.mono ?_;rintro e w1 ⟨rfl,o8⟩;have l9:=qZ o8;have p9:=o8.size;clear c0 c1 c2 c3 c4 c5 f0 f1 f2 f3 o8 m9 x8;go_wp2_with fail
   go_loop [27,7,9] (fun i left pv=>∃(k:Nat) (lf:Int),i=.int .i64 k∧k<=ps.length∧left=.int .i64 lf∧-4611686018427387904<=lf∧lf<=9223372036854775807∧Hid (fits (room-aB8 (sec FE.f es)) (ps.map Row.l)=fits lf ((ps.drop k).map Row.l))) (fun i _ _=>ps.length-(intOf i).toNat)
   case atStart=>exact⟨0,room-aB8 (sec FE.f es),rfl,Nat.zero_le _,rfl,by omega,by omega,qZ rfl⟩
   obtain⟨k,lf,rfl,hk,rfl,D1,B2,m3⟩:=hrel;by_cases hlt:k<ps.length
   ·have p6:(k:Int)<ps.length:=by omega
    obtain⟨ad,rfl,D3,f8⟩:=aQ1 (l8.out.1.below l9.out) hlt;have m0:=qZ (bY9 (left:=lf) hlt);have n4:ps[k].l.length<=4611686018427387904:=(l8.out.2.1 _ (lX hlt)).2;generalize ps[k]=q at f8 m0 n4
    obtain⟨qa,ql,qc⟩:=q;simp only[Row.val] at f8 m0 n4;by_cases hle:(ql.length:Int)<=lf
    ·have HN:=qZ (show fits (room-aB8 (sec FE.f es)) (ps.map Row.l)=fits (lf-ql.length) ((ps.drop (k+1)).map Row.l) by rw[m3.out,m0.out,decide_eq_true hle,Bool.true_and])
     clear m0 m3;go_wp2;go_round
     case rel=>exact⟨k+1,lf-ql.length,by go_num,by omega,rfl,by omega,by omega,HN⟩
     case measure=>simp[intOf];omega
    have HN:=qZ (z8.out (by rw[m3.out,m0.out,decide_eq_false hle,Bool.false_and]));have a9:lf<(ql.length:Int):=by omega
    clear m0 m3 hle;go_wp2;go_ret
    exact⟨by rw[HN.out];rfl,by rw[HN.out];exact aC0.mk' (H.out.below l9.out) (Fr.of_below _ l9.out)⟩
   have y8:k=ps.length:=by omega
   have HR:=qZ (t4.out (by rw[m3.out,y8,List.drop_length];rfl));have p6:¬(k:Int)<ps.length:=by omega
   clear m3 z8 t4 y8;have HJ:=qZ (bT1 A ps ps.length c rfl w1 ((l8.out.1.below l9.out).more p9) (fun q hq=>⟨((l8.out.2.1 q hq).1.below l9.out).more p9,(l8.out.2.1 q hq).2⟩) (by omega) (by omega) B8);go_wp2_with fail
   refine HJ.out.mono ?_;rintro e w2 ⟨v,rfl,q8,o9⟩;obtain⟨Ap,cp,rfl,D6,C8,C6⟩:=q8.shape;have x5:=qZ (l9.out.trans (o9.mono p9));have D8:=o9.size;have HC:=qZ (bC1 (H.out.below x5.out));have o4:=qZ q8;clear q8 o9 HJ C6;go_wp2_with fail
   refine HC.out.mono ?_;rintro e w3 ⟨rfl,n7,p0,B5⟩;have t8:=qZ ((Fr.of_below (aB1 g m es) x5.out).trans p0 (fun j hj=>.inl hj));have s9:Got w3 w1.heap.size (.slice Ap (aE9 ps).length cp) (aE9 ps):=o4.out.kept (fun q hq=>p0.block q (o4.out.row.lt q hq) (fun hf=>by
    have h5:=(H.out.lt q hf).2;have h6:=o4.out.row.base q hq;omega)) (by omega)
   have i4:Hid (Rd w3 w3.heap.size Ap (cells (aE9 ps))):=qZ (by
    obtain⟨A',c',e1,_,_,e2⟩:=s9.shape;injection e1 with e1 _ _
    subst e1;exact e2)
   clear o4 s9;have n9:=qZ (dF3 p C4);generalize p.cut=c at HR n7 n9⊢
   obtain⟨f6,part,p'⟩:=c;simp only at n7 n9⊢;have l7:=qZ n7;obtain⟨Q,hQ⟩:∃Q,Q=if f6=true then cG6 part (aE9 ps) else aE9 ps:=⟨_,rfl⟩
   have i6:Hid (R=(if f6=true then 50 else 0,⟨p',room,aB7 s.data.toList ⟨((aB6 s.data.toList (sec FE.f es)).getD ⟨[],0⟩).b++Q,((aB6 s.data.toList (sec FE.f es)).getD ⟨[],0⟩).safe⟩ (sec FE.f es)⟩)):=qZ (by rw[hQ];exact HR.out);have HQ:=qZ hQ;have C3:w2.heap.size<=w3.heap.size:=by omega
   clear n7 p0 HC HR hQ B5;go_upto_if 49 with fail
   go_cut [10] (fun v wx=>∃Aq cq,v=.slice Aq Q.length cq∧Hid (Rd w3 w3.heap.size Aq (cells Q))∧wx=w3)
   case first=>
    cases f6 with
    |false=>
     obtain rfl:Q=aE9 ps:=by rw[HQ.out];simp
     clear HQ i6;go_wp2_with fail
     go_meet;exact⟨Ap,cp,rfl,i4,rfl⟩
    |true=>
     have e:Q=cG6 part (aE9 ps):=by rw[HQ.out];simp
     have j9:=qZ (cI5 part ((aE9 ps).length+1) n9.out ⟨by omega,by omega⟩ w3);obtain⟨K,hK⟩:∃K:Nat,part % ((aE9 ps).length+1:Int)=K:=⟨(part % ((aE9 ps).length+1:Int)).toNat,by have:=Int.emod_nonneg part (show((aE9 ps).length+1:Int)≠0 by omega);omega⟩
     have E5:K<=(aE9 ps).length:=by have:=Int.emod_lt_of_pos part (show 0<((aE9 ps).length+1:Int) by omega);omega
     have e2:Q=(aE9 ps).take K:=by rw[e];unfold cG6;rw[hK];rfl
     have e3:Q.length=K:=by rw[e2,lV];omega
     rw[hK] at j9;have hcut:=fun W:World=>bD9 (P:=Tryz.prog) Tryz.underlying34 aC6 Ap (aE9 ps).length cp K (by omega) (K:Int) rfl W
     have HE:=qZ e3;have d8:Hid (Rd w3 w3.heap.size Ap (cells Q)):=qZ (by
      rw[e2];have:=i4.out.take K
      rwa[show(cells (aE9 ps)).take K=cells ((aE9 ps).take K) by simp[cells,List.map_take]] at this)
     clear e e2 e3 hK HQ i6;go_wp2_with fail
     refine j9.out.mono ?_;rintro e w' ⟨rfl,rfl⟩;clear j9;go_wp2_with fail
     go_meet;exact⟨Ap,cp,by rw[HE.out],d8,rfl⟩
   obtain⟨Aq,cq,rfl,p7,rfl⟩:=hcut;obtain⟨w3,C9⟩:∃u,u=wc:=⟨_,rfl⟩
   subst C9;have p8:=l7.out.map.get Tryz.underlying9 Tryz.underlying59 (aT0 w3) s (by unfold maxLen;omega);rw[aH6] at p8;have p4:=qZ p8;obtain⟨⟨c0,c1,c2,c3,c4,c5⟩,f0,f1,f2,f3⟩:=aL0 l7.out.blk;clear p8 i4 n9;go_upto_region 17 with fail
   go_cut [63] (fun v wx=>v=.bool (aB6 s.data.toList es).isNone∧wx=w3)
   case first=>
    cases a9:aB6 s.data.toList es with
    |none=>
     have j6:=p4.out;rw[a9] at j6;have C5:(Instr.lookup 59 (.map (some m)) (.string s) false).run Tryz.prog w3=.ok (.pointer none) w3:=j6;have d9:=qZ a9;clear j6 a9;go_wp2_with fail
     go_meet;exact⟨by rw[d9.out];rfl,rfl⟩
    |some fe=>
     have j6:=p4.out;rw[a9] at j6;have C5:(Instr.lookup 59 (.map (some m)) (.string s) false).run Tryz.prog w3=.ok (.pointer (some ⟨fe.blk,0,none⟩)) w3:=j6;have d9:=qZ a9;clear j6 a9;go_wp2_with fail
     go_meet;exact⟨by rw[d9.out];rfl,rfl⟩
   obtain⟨z9,B6⟩:=hcut;subst z9;subst B6;go_upto_if 63 with fail
   go_cut [] (fun wx=>∃j8 a8,Hid (dI1 w wx base g m p' room es s.data.toList j8 a8)∧Hid (Rd wx wx.heap.size Aq (cells Q)))
   case first=>
    cases a9:aB6 s.data.toList es with
    |some fe=>
     have d8:Hid (dI1 w wc base g m p' room es s.data.toList es fe):=qZ ⟨l7.out,t8.out,fun k hk=>.inl hk,a9,by rw[aL5 a9];rfl,fun _=>rfl⟩;have E6:(some fe).isNone=false:=rfl;clear a9;go_wp2_with fail
     go_meet;exact⟨es,fe,d8,p7⟩
    |none=>
     have p5:Below wc.heap.size wc (wc.alloc (.cells #[.slice none 0 0,.int .i64 0] 83)):=(lS _ wc).alloc (lR _) _;have B4:=qZ (l7.out.below p5);have C2:=qZ (Blk.new wc 83 #[.slice none 0 0,.int .i64 0]);have x7:=qZ p5;have D0:(sec FE.blk es).length<maxLen:=by rw[lU];unfold maxLen;omega
     have C7:s.size<=maxLen:=by unfold maxLen;omega
     have d9:=qZ a9;clear p5 a9;go_wp2_with (at_mapUpdate;refine bO0 rfl (.tmp 67) (.tmp 68) (.tmp 70) 59 rfl Tryz.underlying9 Tryz.underlying59 B4.out.map D0 s C7 wc.heap.size rfl rfl rfl ?_;intro w4 t7 q6)
     have d8:=qZ (dJ4 l7.out t8.out x7.out C2.out d9.out t7 q6);have l5:=qZ (dM1 p7.out x7.out q6 l7.out.map);clear t7 q6;go_frame
     go_meet;exact⟨_,_,d8,l5⟩
   obtain⟨j8,a8,HA,l5⟩:=hcut;have m5:Hid (∀W,aF8 Tryz.prog 9 W m (sec FE.blk j8)->(Instr.lookup 59 (.map (some m)) (.string s) false).run Tryz.prog W=.ok (.pointer (some ⟨a8.blk,0,none⟩)) W):=qZ fun W hW=>by
    have h1:=hW.get Tryz.underlying9 Tryz.underlying59 (aT0 W) s (by unfold maxLen;omega);rw[aH6,HA.out.got] at h1;exact h1
   have l6:=aC8 HA.out.got;have hK:Blk wc a8.blk 83 #[a8.v,.int .i64 a8.f.safe]:=HA.out.at_.file _ l6;have a9:Got wc base a8.v a8.f.b:=HA.out.at_.got _ l6;obtain⟨A1,x6,t9,_,_,_⟩:=a9.shape;have g9:a8.v=.slice A1 a8.f.b.length x6:=t9;have C0:a8.f.b.length<=549755813888:=by rw[HA.out.f];exact dB5 l8.out.2.2
   have D5:Q.length<=274877906944:=by
    rw[HQ.out];split
    ·exact Nat.le_trans (dD3 _ _) x4
    exact x4
   obtain⟨⟨_,_,_,_,_,d5⟩,_,_,_,_⟩:=aL0 HA.out.at_.blk;have e0:wc.cell? ⟨a8.blk,0,none⟩=some a8.v:=hK.cell 0;rw[g9] at e0;have B7:base<=wc.heap.size:=by have:=HA.out.at_.low.1;have:=HA.out.at_.blk.lt;omega
   have m7:=HA.out.at_.map;have d9:=qZ a9;have t6:=qZ hK;have o7:=qZ g9;clear c0 c1 c2 c3 c4 c5 f0 f1 f2 f3 a9 hK t9 g9 l6 p4 p7;go_wp2_with fail
   refine aD4 19 (by kernel_rfl) (S:=fun W=>W.cell? ⟨g,5,none⟩=some (.map (some m))∧aF8 Tryz.prog 9 W m (sec FE.blk j8)∧W.cell? ⟨a8.blk,0,none⟩=some (.slice A1 a8.f.b.length x6)∧True) ⟨d5,m7,e0,trivial⟩ (fun hHeld=>?_);refine zU 0 (k:=?_);refine zU 1 (k:=?_);refine zU 2 (k:=?_);refine zU 3 (k:=?_);refine zU 4 (k:=?_);simp only[zA,zB,zF,zG,zC,zD,zE];refine aO3 5 (v:=?_) (by simp) (by kernel_rfl) (by kernel_rfl) (by kernel_rfl) (by kernel_rfl) (fun _ _ _ h=>h) (Or.inl ⟨by rfl,?_⟩) hHeld ?_
   case refine_2=>(intro w n5;(try dsimp only at n5);obtain⟨s0,s1,s2,s3⟩:=n5;have hl:=m5.out w s1;simp only[List.getElem_cons_zero,List.getElem_cons_succ];go_simp<;>with_reducible rfl)
   simp only[List.getElem_cons_zero,List.getElem_cons_succ,Act.put,List.setIfInBounds_toArray,List.set_cons_zero,List.set_cons_succ];refine zU 6 (k:=?_);refine zU 7 (k:=?_);refine zU 8 (k:=?_);refine zU 9 (k:=?_);refine zU 10 (k:=?_);simp only[zA,zB,zF,zG,zC,zD,zE];refine aO3 11 (v:=?_) (by simp) (by kernel_rfl) (by kernel_rfl) (by kernel_rfl) (by kernel_rfl) (fun _ _ _ h=>h) (Or.inl ⟨by rfl,?_⟩) hHeld ?_
   case refine_2=>(intro w n5;(try dsimp only at n5);obtain⟨s0,s1,s2,s3⟩:=n5;have hl:=m5.out w s1;simp only[List.getElem_cons_zero,List.getElem_cons_succ];go_simp<;>with_reducible rfl)
   simp only[List.getElem_cons_zero,List.getElem_cons_succ,Act.put,List.setIfInBounds_toArray,List.set_cons_zero,List.set_cons_succ];refine zU 12 (k:=?_);refine zU 13 (k:=?_);refine zU 14 (k:=?_);refine zU 15 (k:=?_);simp only[zA,zB,zF,zG,zC,zD,zE];refine zW 16 (k:=fun K hK=>?_);simp only[zA,zB];rw[if_pos (by rfl)];refine aX8 (w:=wc.drew) (.tmp 85) (.tmp 86) rfl base _ a8.f.b rfl (by rw[<-o7.out];exact d9.out.kept (fun _ _=>rfl) (lR _)) wc.heap.size Aq cq Q rfl (l5.out.keep fun _ _=>rfl) (by omega) B7 ?_;intro v5 w5 n6 b8 m4;obtain⟨A5,g8,B9,_,_,_⟩:=n6.shape;subst B9;have f7:wc.grownBy w5 a8.v.ownBlock:=by rw[o7.out];exact⟨b8.os,b8.tape,b8.output,b8.size,b8.block⟩
   have m6:Blk w5 a8.blk 83 #[a8.v,.int .i64 a8.f.safe]:=t6.out.grown f7 (fun e=>aF0 d9.out t6.out (by decide) e.symm);have B1:g≠m:=aL8 HA.out.at_.blk HA.out.at_.map;have e5:w5.cell? ⟨g,5,none⟩=some (.map (some m)):=(World.cell?_of_block (w:=wc) (f7.block g HA.out.at_.blk.lt (fun e=>aF0 d9.out HA.out.at_.blk (by decide) e.symm))).trans d5;have o6:aF8 Tryz.prog 9 w5 m (sec FE.blk j8):=m7.keep (f7.block m m7.lt (fun e=>aS1 d9.out m7 e.symm));have b0:w5.cell? ⟨a8.blk,0,none⟩=some a8.v:=m6.cell 0;have bf:=m6.frozen 0;rw[o7.out] at b0;have m2:=aA0 w5 a8.blk 0 (.slice A5 (a8.f.b++Q).length g8);have f9:Got (w5.setCell ⟨a8.blk,0,none⟩ (.slice A5 (a8.f.b++Q).length g8)) base (.slice A5 (a8.f.b++Q).length g8) (a8.f.b++Q):=n6.kept (fun q hq=>Below.heap_setCell w5 _ _ q (fun e=>aF0 n6 m6 (by decide) (by rw[hq,e]))) m2.size;have T1:aC0 wc base g m j8 ⟨p',room,aB7 s.data.toList ⟨a8.f.b++Q,a8.f.safe⟩ (sec FE.f j8)⟩ (w5.setCell ⟨a8.blk,0,none⟩ (.slice A5 (a8.f.b++Q).length g8)):=
    aC0.file_set HA.out.at_ (Fr.refl _ _) HA.out.got (.slice A5 (a8.f.b++Q).length g8) ⟨a8.f.b++Q,a8.f.safe⟩ (Nat.le_trans f7.size m2.size) (Blk.set_ m6 0 _) f9 (by have:=HA.out.at_.safe _ (aC8 HA.out.got);show a8.f.safe<=(a8.f.b++Q).length;rw[lT];exact Nat.le_trans this (Nat.le_add_right _ _))
     (fun k hk=>by
      rcases m4 k hk with h1|h1
      ·exact .inl (by rw[o7.out];exact h1)
      exact .inr h1) (fun k hk h1 h2=>(Below.heap_setCell w5 _ _ k (fun e=>h1 e)).trans (f7.block k hk (fun e=>h2 e.symm))) ⟨m2.os.trans f7.os,m2.tape.trans f7.tape,m2.output.trans f7.output⟩
   have T2:=aC0.step2 HA.out.fr HA.out.foot T1;have HT:Hid (aC0 w base g m es R.2 (w5.setCell ⟨a8.blk,0,none⟩ (.slice A5 (a8.f.b++Q).length g8))):=qZ (by
    rw[i6.out];rw[HA.out.fs] at T2;have e6:=HA.out.f;rw[e6] at T2;rw[e6];exact T2)
   clear T1 T2 f9 n6 b8 m4 f7 m2;refine hK.out _ _ ⟨e5,o6,b0,trivial⟩ (fun hHeld=>?_);clear hK K;try simp only[zF,zG,zC,zD,zE]
   refine zW 17 (k:=fun K hK=>?_);simp only[zA,zB];go_simp;refine hK.out _ _ ⟨e5,o6,b0,trivial⟩ (fun hHeld=>?_);clear hK K;try simp only[zF,zG,zC,zD,zE]
   refine zW 18 (k:=fun K hK=>?_);simp only[zA,zB];go_simp;refine hK.out _ _ ⟨e5,o6,b0,trivial⟩ (fun hHeld=>?_);clear hK K;try simp only[zF,zG,zC,zD,zE]
   refine aG6 (t:=19) (by simp) (by kernel_rfl) (by kernel_rfl) (fun K hK=>?_);simp only[zA,zB];go_simp;refine hK.out _ _ ?_;clear hK K hHeld e5 o6 b0 bf d5 e0 m7 m6;rw[lT] at HT;generalize w5.setCell ⟨a8.blk,0,none⟩ (.slice A5 (a8.f.b.length+Q.length) g8)=w6 at HT⊢
   cases f6 with
   |true=>
    have HE:Hid (R.1=50):=qZ (by rw[i6.out];rfl);clear HQ i6;go_wp2;go_ret
    exact⟨by rw[HE.out];rfl,HT.out⟩
   |false=>
    have HE:Hid (R.1=0):=qZ (by rw[i6.out];rfl);clear HQ i6;go_wp2;go_ret
    exact⟨by rw[HE.out];rfl,HT.out⟩
end
end
end Go.Proofs.YtgeofijddhflaaaGreatDoor

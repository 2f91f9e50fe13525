/- The walks of scan.Name and of the reference's Name: both answer nameB. -/
import Derived.Test.YtjlclkcmfokobaaGreatDoorLeafQZ
import Derived.Test.YtjlclkcmfokobaaGreatDoorShelfZ
import Derived.Lib.RuneCount
import Derived.Lib.OthersKept
namespace Go.Proofs.YtjlclkcmfokobaaGreatDoor
open Go.RowKit Go.Proofs Go.Lib
def Uni(w:World):Prop:=Lib.TabIs Tryz.prog w "unicode.properties" .u8 Lib.propertiesTab∧RVar 1 Lib.letterT w
theorem Uni.below{w w':World}(h:Uni w)(hb:Below w.heap.size w w'):Uni w':=⟨TabIs_below (g:=0) ZK h.1 hb,RVar_below h.2 hb⟩
def YaF(s:ByteArray):Nat→Nat→List Int
 |0,_=>[]
 |f+1,pos=>if pos<s.size then((Utf8.decode s pos).1:Int)::YaF s f (pos+(Utf8.decode s pos).2) else []
def YP(s:ByteArray):List Int:=YaF s s.size 0
theorem YcP{s:ByteArray}{f pos:Nat}(h:¬pos<s.size):YaF s f pos=[]:=by cases f<;>simp[YaF,h]
theorem YcQ{s:ByteArray}{f pos:Nat}(hf:s.size≤pos+f)(h:pos<s.size) :
 ∃f',f=f'+1∧s.size≤pos+(Utf8.decode s pos).2+f'∧YaF s f pos=((Utf8.decode s pos).1:Int)::YaF s f' (pos+(Utf8.decode s pos).2):=by
 cases f with
 |zero=>omega
 |succ f=>exact⟨f,rfl,by have:=Lib.decode_width_pos s pos h;omega,by simp[YaF,h]⟩
theorem YjW(s:ByteArray):∀f pos,(YaF s f pos).length≤f
 |0,_=>by simp[YaF]
 |f+1,pos=>by
  unfold YaF;split
  · simpa using YjW s f _
  · exact ZS
def YaW(c:Int):Bool:=Lib.isLetterU c&&decide (c≠65533)
def Ycp(c:Int):Bool:=decide (48≤c)&&decide (c≤57)
def Yaw(c:Int):Bool:=YaW c||Ycp c||decide (c=46)||decide (c=95)
def YcR(l:List Int):Bool:=match l with|[]=>true|c::_=>YaW c
def YaG(l:List Int):Bool:=YcR l&&l.all Yaw
def YaH(s:ByteArray):Bool:=YaG (YP s)&&decide (1≤(YP s).length)&&decide ((YP s).length≤16)
theorem Yd4{c:Int}(h:YaW c=true):Yaw c=true:=by simp[Yaw,h]
theorem YeW{pre:List Int}{c:Int}(h:YaG pre=true)(h1:pre=[]→YaW c=true)(h2:Yaw c=true):YaG (pre++[c])=true:=by
 cases pre with
 |nil=>simp[YaG,YcR,h1 rfl,h2]
 |cons a r=>simp[YaG,YcR]at h ⊢;exact⟨h.1,h.2.1,h.2.2,h2⟩
theorem YeX{pre post:List Int}{c:Int}(h:(pre=[]∧YaW c=false)∨Yaw c=false):YaG (pre++c::post)=false:=by
 rcases h with⟨rfl,h⟩|h
 · simp[YaG,YcR,h]
 · simp[YaG,h]
theorem YeY{W w:World}(hU:Uni W)(hW:Below W.heap.size W w)(c:Int)(h0:-2147483648≤c)(h1:c≤2147483647) :
 Calls Tryz.prog 210 #[.int .i32 c] w fun e w'=>e=.returned (.bool (YaW c))∧Below w.heap.size w w':=by
 have hU':=hU.below hW;cases hl:Lib.isLetterU c
 all_goals
  have hc:=Tryz.unicode_IsLetter_all c w h0 h1 hU'.1 hU'.2;rw[hl]at hc;go_enter Tryz.func210,Tryz.ntmps210;go_wp2_with(go_at_call 155;refine hc.mono ?_;rintro e w1 ⟨rfl,hb⟩);go_ret;exact⟨Yam (by simp[YaW,hl]),hb⟩
theorem Yd5{w:World}(c:Int) :
 Calls Tryz.prog 217 #[.int .i32 c] w fun e w'=>e=.returned (.bool (Ycp c))∧w=w':=by
 by_cases h0:48≤c
 all_goals
  go_enter Tryz.func217,Tryz.ntmps217;go_wp2;go_ret;exact⟨Yam (by simp[Ycp]<;>omega),rfl⟩
theorem YeZ{W w:World}(hU:Uni W)(hW:Below W.heap.size W w)(c:Int)(h0:-2147483648≤c)(h1:c≤2147483647) :
 Calls Tryz.prog 211 #[.int .i32 c] w fun e w'=>e=.returned (.bool (Yaw c))∧Below w.heap.size w w':=by
 have hc:=YeY hU hW c h0 h1;cases hl:YaW c
 · rw[hl]at hc
   by_cases d0:Ycp c=true
   · go_enter Tryz.func211,Tryz.ntmps211
     go_wp2_with(first|(go_at_call 210;refine hc.mono ?_;rintro e w1 ⟨rfl,hb⟩)|(go_at_call 217;refine(Yd5 c).mono ?_;rintro e w2 ⟨rfl,rfl⟩));go_ret;exact⟨Yam (by simp[Yaw,hl,d0]),hb⟩
   · rw[Bool.not_eq_true]at d0
     have hd:=Yd5 (w:=w) c
     by_cases d1:c=46
     · subst d1
       go_enter Tryz.func211,Tryz.ntmps211;go_wp2_with(first|(go_at_call 210;refine hc.mono ?_;rintro e w1 ⟨rfl,hb⟩)|(go_at_call 217;refine(Yd5 _).mono ?_;rintro e w2 ⟨rfl,rfl⟩));go_ret;exact⟨Yam (by simp[Yaw]),hb⟩
     · go_enter Tryz.func211,Tryz.ntmps211
       go_wp2_with(first|(go_at_call 210;refine hc.mono ?_;rintro e w1 ⟨rfl,hb⟩)|(go_at_call 217;refine(Yd5 c).mono ?_;rintro e w2 ⟨rfl,rfl⟩));go_ret;exact⟨Yam (by simp[Yaw,hl,d0,d1]),hb⟩
 · rw[hl]at hc
   go_enter Tryz.func211,Tryz.ntmps211;go_wp2_with(go_at_call 210;refine hc.mono ?_;rintro e w1 ⟨rfl,hb⟩);go_ret;exact⟨Yam (by simp[Yaw,hl]),hb⟩
theorem YjX{w:World}(s:ByteArray)(hs:s.size≤maxLen) :
 Calls Tryz.prog 212 #[.string s] w fun e w'=>e=.returned (.int .i64 (YP s).length)∧Below w.heap.size w w':=by
 unfold maxLen at hs;go_enter Tryz.func212,Tryz.ntmps212;go_wp2
 go_loopw[3] (fun n wr=>∃(pos f k:Nat),n=.int .i64 k∧wr.heap[w.heap.size]?=some (.stringIter s pos)∧Below w.heap.size w wr∧Hid ((YP s).length=k+(YaF s f pos).length)∧s.size≤pos+f∧k≤pos) (fun _ wr=>s.size-wr.iterPos w.heap.size)
 case atStart=>exact⟨0,s.size,0,rfl,World.iter_heap _ _ _,(Br _ _).alloc (Nr _) _,by simp[Hid,YP],ZO,ZO⟩
 case round=>
  obtain⟨pos,f,k,rfl,hit,hb,hr,hf,hk⟩:=hrel
  by_cases hlt:pos<s.size
  · have hnx:∀ty,(Instr.next (.pointer (some ⟨w.heap.size,0,none⟩)) true ty).run Tryz.prog wr=_:=fun ty=>Lib.run_next_any_at wr w.heap.size s pos ty hit hlt
    obtain⟨f',rfl,hf',he⟩:=YcQ hf hlt;have hw1:=Lib.decode_width_pos s pos hlt;have HE:=Lh he;clear he;go_wp2;go_roundw
    case rel=>exact⟨pos+(Utf8.decode s pos).2,f',k+1,ZN,Lib.iterAt_heap _ _ _ _ _ hit,Lib.below_iterAt hb (Nr _) _ _,by unfold Hid;rw[hr.out,HE.out];simp;omega,hf',ZO⟩
    case measure=>simp[iterPos_of (Lib.iterAt_heap _ _ _ _ _ hit),iterPos_of hit];omega
  · have hnx:∀ty,(Instr.next (.pointer (some ⟨w.heap.size,0,none⟩)) true ty).run Tryz.prog wr=_:=fun ty=>Lib.run_next_end_at wr w.heap.size s pos ty hit hlt
    have he:=Lh (YcP (f:=f) hlt);go_wp2;go_ret;exact⟨Yt (by rw[hr.out,he.out];simp),hb⟩
theorem Ye0{s:ByteArray}(h:YaG (YP s)=false):YaH s=false:=by simp[YaH,h]
theorem YgG{s:ByteArray}(h:YaG (YP s)=true):YaH s=(decide (1≤(YP s).length)&&decide ((YP s).length≤16)):=by simp[YaH,h]
theorem YgH{s:ByteArray}:s.toList.isEmpty=true↔s.size=0:=by
 rw[List.isEmpty_iff_length_eq_zero,Lib.toList_data];exact Iff.rfl
theorem YjY{s:ByteArray}(h:s.toList.isEmpty=true):YP s=[]:=by
 rw[YgH]at h;unfold YP;exact YcP ZO
theorem YjZ{s:ByteArray}(h:s.toList.isEmpty=false):1≤(YP s).length:=by
 have h0:0<s.size:=by
  rcases Nat.eq_zero_or_pos s.size with h0|h0
  · rw[YgH.2 h0]at h;cases h
  · exact h0
 obtain⟨f',_,_,he⟩:=YcQ (s:=s) (f:=s.size) (pos:=0) ZO h0;unfold YP;rw[he];simp
set_option maxHeartbeats 400000 in
theorem Yj0{W w:World}(hU:Uni W)(hW:Below W.heap.size W w)(s:ByteArray)(hs:s.size≤maxLen) :
 Calls Tryz.prog 203 #[.string s] w fun e w'=>e=.returned (.bool (YaH s))∧Below w.heap.size w w':=by
 unfold maxLen at hs;go_enter Tryz.func203,Tryz.ntmps203;go_wp2
 go_loopw[3] (fun _ wr=>∃(pos f:Nat) (pre:List Int),wr.heap[w.heap.size]?=some (.stringIter s pos)∧Below w.heap.size w wr∧Hid (YP s=pre++YaF s f pos)∧s.size≤pos+f∧Hid (YaG pre=true)∧(pos=0↔pre=[])) (fun _ wr=>s.size-wr.iterPos w.heap.size)
 case atStart=>exact⟨0,s.size,[],World.iter_heap _ _ _,(Br _ _).alloc (Nr _) _,by simp[Hid,YP],ZO,by simp[Hid,YaG,YcR],ZS⟩
 case round=>
  obtain⟨pos,f,pre,hit,hb,hr,hf,hg,hp⟩:=hrel
  by_cases hlt:pos<s.size
  · have hnx:∀ty,(Instr.next (.pointer (some ⟨w.heap.size,0,none⟩)) true ty).run Tryz.prog wr=_:=fun ty=>Lib.run_next_any_at wr w.heap.size s pos ty hit hlt
    obtain⟨f',rfl,hf',he⟩:=YcQ hf hlt;have hw1:=Lib.decode_width_pos s pos hlt;have HE:=Lh he;have hcl:=decode_le s pos;have hit1:=Lh (Lib.iterAt_heap wr w.heap.size s pos (pos+(Utf8.decode s pos).2) hit);have hb1:=Lib.below_iterAt hb (Nr w.heap.size) s (pos+(Utf8.decode s pos).2);have hWw1:=hW.trans (hb1.mono hW.size);have HP:=Lh hp;have hsz:=Lib.iterAt_size wr w.heap.size s (pos+(Utf8.decode s pos).2);have hsz2:=hb.size;have hsz3:w.heap.size<wr.heap.size:=(Array.getElem?_eq_some_iff.1 hit).1;clear he hp hW
    by_cases hp0:pos=0
    · subst hp0
      rw[Nat.zero_add]at hit1 hb1 hWw1 hsz;cases hl:YaW ((Utf8.decode s 0).1:Int)
      · have hc:=YeY hU hWw1 ((Utf8.decode s 0).1:Int) ZO ZO
        rw[hl]at hc;have hfin:YaH s=false:=Ye0 (by rw[hr.out,HE.out];exact YeX (.inl ⟨HP.out.1 rfl,hl⟩));have HF:=Lh hfin;have HL:=Lh hl;clear hl hfin;go_wp2_with(go_at_call 210;refine hc.mono ?_;rintro e w1 ⟨rfl,hb2⟩);go_ret;exact⟨Yb HF.out.symm,hb1.trans (hb2.mono hb1.size)⟩
      · have hc:=YeY hU hWw1 ((Utf8.decode s 0).1:Int) ZO ZO
        rw[hl]at hc;have HL:=Lh hl;clear hl;go_wp2_with(first|(go_at_call 210;refine hc.mono ?_;rintro e w1 ⟨rfl,hb2⟩)|(go_at_call 211;have hc3:=YeZ hU (hWw1.trans (hb2.mono hWw1.size)) ((Utf8.decode s 0).1:Int) ZO ZO;rw[Yd4 HL.out]at hc3;refine hc3.mono ?_;rintro e w2 ⟨rfl,hb3⟩));go_roundw
        case rel=>exact⟨_,f',pre++[((Utf8.decode s 0).1:Int)],(hb3.block _ (by have:=hb2.size;omega)).trans ((hb2.block _ ZO).trans hit1.out),hb1.trans ((hb2.mono hb1.size).trans (hb3.mono (by have:=hb2.size;omega))),by unfold Hid;rw[hr.out,HE.out];simp,by simpa using hf',by unfold Hid;exact YeW hg.out (fun _=>HL.out) (Yd4 HL.out),ZX⟩
        case measure=>simp[iterPos_of ((hb3.block w.heap.size (by have:=hb2.size;omega)).trans ((hb2.block _ ZO).trans hit1.out)),iterPos_of hit];omega
    · cases hl:Yaw ((Utf8.decode s pos).1:Int)
      · have hc:=YeZ hU hWw1 ((Utf8.decode s pos).1:Int) ZO ZO
        rw[hl]at hc;have hfin:YaH s=false:=Ye0 (by rw[hr.out,HE.out];exact YeX (.inr hl));have HF:=Lh hfin;have HL:=Lh hl;clear hl hfin;go_wp2_with(go_at_call 211;refine hc.mono ?_;rintro e w1 ⟨rfl,hb2⟩);go_ret;exact⟨Yb HF.out.symm,hb1.trans (hb2.mono hb1.size)⟩
      · have hc:=YeZ hU hWw1 ((Utf8.decode s pos).1:Int) ZO ZO
        rw[hl]at hc;have HL:=Lh hl;clear hl;go_wp2_with(go_at_call 211;refine hc.mono ?_;rintro e w1 ⟨rfl,hb2⟩);go_roundw
        case rel=>exact⟨_,f',pre++[((Utf8.decode s pos).1:Int)],(hb2.block _ ZO).trans hit1.out,hb1.trans (hb2.mono hb1.size),by unfold Hid;rw[hr.out,HE.out];simp,hf',by unfold Hid;exact YeW hg.out (fun h=>absurd (HP.out.2 h) hp0) HL.out,ZX⟩
        case measure=>simp[iterPos_of ((hb2.block w.heap.size ZO).trans hit1.out),iterPos_of hit];omega
  · have hnx:∀ty,(Instr.next (.pointer (some ⟨w.heap.size,0,none⟩)) true ty).run Tryz.prog wr=_:=fun ty=>Lib.run_next_end_at wr w.heap.size s pos ty hit hlt
    have he:=Lh (YcP (f:=f) hlt);have HG:=Lh (show YaG (YP s)=true by rw[hr.out,he.out];simpa using hg.out);clear hp;cases h0:s.toList.isEmpty
    · have HR:=Lh (YjZ h0)
      go_wp2_with(go_at_call 212;refine(YjX s (by unfold maxLen;exact hs)).mono ?_;rintro e w1 ⟨rfl,hb2⟩);go_ret;exact⟨Yam (by simp only[YgG HG.out,Bool.and_eq_true,decide_eq_true_eq];have:=HR.out;omega),hb.trans (hb2.mono hb.size)⟩
    · have HR:=Lh (YjY h0)
      go_wp2;go_ret;exact⟨Yb (by rw[YgG HG.out,HR.out];rfl),hb⟩
theorem Yj1{c:Int}(h:YaW c=false):Lib.isLetterU c=false∨(Lib.isLetterU c=true∧c=65533):=by
 cases hl:Lib.isLetterU c
 · exact .inl rfl
 · refine .inr ⟨rfl,?_⟩
   simpa[YaW,hl]using h
set_option maxHeartbeats 1000000 in
theorem YgI{W w:World}(hU:Uni W)(hW:Below W.heap.size W w)(s:ByteArray)(hs:s.size≤maxLen) :
 Calls Tryz.prog 121 #[.string s] w fun e w'=>e=.returned (.bool (YaH s))∧Below w.heap.size w w':=by
 unfold maxLen at hs;go_enter Tryz.func121,Tryz.ntmps121;go_wp2
 go_loopw[3] (fun n wr=>∃(pos f:Nat) (pre:List Int),n=.int .i64 pre.length∧wr.heap[w.heap.size]?=some (.stringIter s pos)∧Below w.heap.size w wr∧Hid (YP s=pre++YaF s f pos)∧s.size≤pos+f∧Hid (YaG pre=true)∧pre.length≤pos) (fun _ wr=>s.size-wr.iterPos w.heap.size)
 case atStart=>exact⟨0,s.size,[],rfl,World.iter_heap _ _ _,(Br _ _).alloc (Nr _) _,by simp[Hid,YP],ZO,by simp[Hid,YaG,YcR],ZS⟩
 case round=>
  obtain⟨pos,f,pre,rfl,hit,hb,hr,hf,hg,hp⟩:=hrel
  by_cases hlt:pos<s.size
  · obtain⟨f',rfl,hf',he⟩:=YcQ hf hlt
    have hw1:=Lib.decode_width_pos s pos hlt;have hnx:∀ty,(Instr.next (.pointer (some ⟨w.heap.size,0,none⟩)) true ty).run Tryz.prog wr=_:=fun ty=>Lib.run_next_any_at wr w.heap.size s pos ty hit hlt
    have hcl:=decode_le s pos;have HE:=Lh he;have hc0:0≤((Utf8.decode s pos).1:Int):=by omega
    have hc1:((Utf8.decode s pos).1:Int)≤2147483647:=by omega
    clear he hcl;generalize ((Utf8.decode s pos).1:Int)=c at *;have hit1:=Lh (Lib.iterAt_heap wr w.heap.size s pos (pos+(Utf8.decode s pos).2) hit);have hb1:=Lib.below_iterAt hb (Nr w.heap.size) s (pos+(Utf8.decode s pos).2);have hWw1:=hW.trans (hb1.mono hW.size);have hUw1:=hU.below hWw1;have hc:=Tryz.unicode_IsLetter_all c (wr.iterAt w.heap.size s (pos+(Utf8.decode s pos).2)) ZO ZO hUw1.1 hUw1.2;have hsz:=Lib.iterAt_size wr w.heap.size s (pos+(Utf8.decode s pos).2);have hsz2:=hb.size;have hsz3:w.heap.size<wr.heap.size:=(Array.getElem?_eq_some_iff.1 hit).1;have REL:∀w1,Below (wr.iterAt w.heap.size s (pos+(Utf8.decode s pos).2)).heap.size (wr.iterAt w.heap.size s (pos+(Utf8.decode s pos).2)) w1→Yaw c=true→(pre=[]→YaW c=true)→
     (∃(pos f:Nat) (pre':List Int),Value.int .i64 ((pre.length:Int)+1)=Value.int .i64 pre'.length∧w1.heap[w.heap.size]?=some (.stringIter s pos)∧Below w.heap.size w w1∧Hid (YP s=pre'++YaF s f pos)∧s.size≤pos+f∧Hid (YaG pre'=true)∧pre'.length≤pos)∧s.size-w1.iterPos w.heap.size<s.size-wr.iterPos w.heap.size:=by
     intro w1 hb2 hi hl;have hx:=(hb2.block w.heap.size ZO).trans hit1.out;refine⟨⟨_,f',pre++[c],ZS,hx,hb1.trans (hb2.mono hb1.size),by unfold Hid;rw[hr.out,HE.out];simp,hf',by unfold Hid;exact YeW hg.out hl hi,ZX⟩,?_⟩;rw[iterPos_of hx,iterPos_of hit];omega
    have REL':=Lh REL;have BAD:=Lh (show((pre=[]∧YaW c=false)∨Yaw c=false)→YaH s=false from fun h=>Ye0 (by rw[hr.out,HE.out];exact YeX h));clear REL hit1 hUw1;cases hl:YaW c
    · rcases Yj1 hl with hu|⟨hu,rfl⟩
      · rw[hu]at hc
        have HL:=Lh hl;clear hl hu;rcases Nat.eq_zero_or_pos pre.length with hn|hn
        · have hn0:((pre.length:Int)==0)=true:=by simp;exact List.eq_nil_of_length_eq_zero hn
          have HF:=Lh (BAD.out (.inl ⟨List.eq_nil_of_length_eq_zero hn,HL.out⟩));clear hn;go_wp2_with(go_at_call 155;refine hc.mono ?_;rintro e w1 ⟨rfl,hb2⟩);go_ret;exact⟨Yb HF.out.symm,hb1.trans (hb2.mono hb1.size)⟩
        · have hn0:((pre.length:Int)==0)=false:=by rw[beq_eq_false_iff_ne];omega
          have hne:pre≠[]:=by rintro rfl;simp at hn
          have HN:=Lh hne;clear hne;cases hi:Yaw c
          · have HF:=Lh (BAD.out (.inr hi))
            have hd:¬(48≤c∧c≤57)∧c≠46∧c≠95:=by simp[Yaw,HL.out,Ycp]at hi;omega
            clear hi;obtain⟨d0,d1,d2⟩:=hd;have e1:(c !=46)=true:=by simpa using d1
            have e2:(c !=95)=true:=by simpa using d2
            by_cases d3:c<48
            · clear d0
              go_wp2_with(go_at_call 155;refine hc.mono ?_;rintro e w1 ⟨rfl,hb2⟩);go_ret;exact⟨Yb HF.out.symm,hb1.trans (hb2.mono hb1.size)⟩
            · have e3:decide (c≤57)=false:=by simp;omega
              clear d0;go_wp2_with(go_at_call 155;refine hc.mono ?_;rintro e w1 ⟨rfl,hb2⟩);go_ret;exact⟨Yb HF.out.symm,hb1.trans (hb2.mono hb1.size)⟩
          · have HI:=Lh hi
            have hd:(48≤c∧c≤57)∨c=46∨c=95:=by simp[Yaw,HL.out,Ycp]at hi;omega
            clear hi;rcases hd with⟨d0,d1⟩|rfl|rfl
            all_goals
             go_wp2_with(go_at_call 155;refine hc.mono ?_;rintro e w1 ⟨rfl,hb2⟩);go_roundw
             case rel=>exact(REL'.out _ hb2 HI.out (fun h=>absurd h HN.out)).1
             case measure=>exact(REL'.out _ hb2 HI.out (fun h=>absurd h HN.out)).2
      · rw[hu]at hc
        have HF:=Lh (BAD.out (.inr (by simp[Yaw,hl,Ycp])));clear hl hu;rcases Nat.eq_zero_or_pos pre.length with hn|hn
        · have hn0:((pre.length:Int)==0)=true:=by simp;exact List.eq_nil_of_length_eq_zero hn
          clear hn;go_wp2_with(go_at_call 155;refine hc.mono ?_;rintro e w1 ⟨rfl,hb2⟩);go_ret;exact⟨Yb HF.out.symm,hb1.trans (hb2.mono hb1.size)⟩
        · have hn0:((pre.length:Int)==0)=false:=by rw[beq_eq_false_iff_ne];omega
          go_wp2_with(go_at_call 155;refine hc.mono ?_;rintro e w1 ⟨rfl,hb2⟩);go_ret;exact⟨Yb HF.out.symm,hb1.trans (hb2.mono hb1.size)⟩
    · have HL:=Lh hl
      have hu:Lib.isLetterU c=true∧c≠65533:=by simpa[YaW]using hl
      obtain⟨hu,hne⟩:=hu;rw[hu]at hc;clear hl hu;go_wp2_with(go_at_call 155;refine hc.mono ?_;rintro e w1 ⟨rfl,hb2⟩);go_roundw
      case rel=>exact(REL'.out _ hb2 (Yd4 HL.out) (fun _=>HL.out)).1
      case measure=>exact(REL'.out _ hb2 (Yd4 HL.out) (fun _=>HL.out)).2
  · have hnx:∀ty,(Instr.next (.pointer (some ⟨w.heap.size,0,none⟩)) true ty).run Tryz.prog wr=_:=fun ty=>Lib.run_next_end_at wr w.heap.size s pos ty hit hlt
    have he:=Lh (YcP (f:=f) hlt);have HR:=Lh (show YP s=pre by rw[hr.out,he.out];simp)
    by_cases h1:1≤(pre.length:Int)
    all_goals
     go_wp2;go_ret;exact⟨Yam (by simp[YaH,HR.out,hg.out]<;>omega),hb⟩
end Go.Proofs.YtjlclkcmfokobaaGreatDoor

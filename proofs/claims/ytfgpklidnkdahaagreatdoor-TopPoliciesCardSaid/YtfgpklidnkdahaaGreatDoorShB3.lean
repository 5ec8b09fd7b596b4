/-
  The compiled code of functions of the program, third part. No conditions beyond those that stand in the theorems.
-/
import Derived.Test.YtfgpklidnkdahaaGreatDoorShB0
set_option linter.all false
set_option maxHeartbeats 20000000
set_option maxRecDepth 100000
namespace Go.Sh
section
noncomputable section
def DH:=az 174
def PD:=az 180
def Iw:=az 181
def amJ:=az 182
def PE:=az 184
def PF:=az 185
def PG:=az 186
def PH:=az 187
def PI:=az 188
def PJ:=az 189
def PN:=az 190
def amK:=az 191
def amL:=az 192
def Ix:=az 199
def nI:=az 200
def PO:=az 201
def Iz:=az 202
def amN:=az 204
def amO:=az 206
def amP:=az 207
def amQ:=az 210
def amR:=az 211
def amS:=az 216
def amU:=az 220
def amV:=az 226
def amW:=az 227
def amX:=az 228
def amY:=az 229
def amZ:=az 231
def IB:=Bf 232
def am0:=az 234
def am1:=az 235
def am2:=az 236
def am3:=az 238
def DJ:=az 239
def am4:=az 247
def am5:=az 248
def DL:=Bf 249
def am6:=az 252
def PR:=az 253
def PT:=az 254
def lU:=az 255
def PU:=az 256
def PV:=az 257
def PW:=az 258
def PX:=az 259
def IC:=az 265
def wa:=az 266
def yz:=az 267
def ID:=az 268
def DN:=az 269
def IF:=az 270
def IG:=az 271
def AR:=az 272
def IH:=az 273
def PY:=az 274
def II:=az 275
def IJ:=az 276
def PZ:=az 277
def P0:=az 279
def am7:=az 280
def am8:=az 282
def am9:=az 284
def ana:=az 285
attribute [go_sem] DH PD Iw PE PF PG PH PI PJ PN Ix nI PO Iz IB DJ DL PR PT lU PU PV PW PX IC wa yz ID DN IF IG AR IH PY II IJ PZ P0
end
end
end Go.Sh

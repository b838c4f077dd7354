import Derived.Test.YtfdjkfmiofgclaaGreatDoorKAr
import Derived.Test.YtfdjkfmiofgclaaGreatDoorKJn
import Derived.Test.YtfdjkfmiofgclaaGreatDoorKBst
namespace Go.Kv
set_option linter.unusedVariables false
set_option linter.unusedSimpArgs false
set_option linter.unnecessarySimpa false
noncomputable section
open Go Go.RowKit Go.Proofs
set_option maxRecDepth 100000
def qa384 : List AV := [(.d (.v (.int .u64 2)))]
def qa383 : List AV := [(.d (.v (.int .i64 0)))]
def qa382 : List AV := [(.d (.v (.int .i64 3)))]
def qa381 : List AV := [(.d (.v (.int .i64 1)))]
def qa380 : List AV := [(.d (.v (.int .i64 2)))]
def qa379 : List AV := [(.d (.v (.int .i64 (-2))))]
def qa378 : DV := (.v (.string (.mk (#[48]))))
def qa377 : DV := (.v (.string (.mk (#[49]))))
def qa376 : List DV := [(.v (.int .i64 1000000000))]
def qa375 : DV := (.v (.string (.mk (#[116]))))
def qa374 : AV := (.d (.v (.string (.mk (#[32])))))
def qa373 : AV := (.d qa378)
def qa372 : AV := (.d qa377)
def qa371 : AV := (.d (.sl 1 [(.v (.int .i64 2))]))
def qa370 : AV := (.d (.sl 1 [(.v (.int .i64 1))]))
def qa369 : AV := (.d (.sl 1 [(.v (.int .i64 0))]))
def qa368 : DV := (.v (.string (.mk (#[111, 110]))))
def qa367 : List AV := [qa371]
def qa366 : List AV := [qa370]
def qa365 : List AV := [(.d (.sl 1 [(.v (.int .i64 3))]))]
def qa364 : List AV := [(.d (.v (.string (.mk (#[99])))))]
def qa363 : List AV := [(.d (.v (.string (.mk (#[98])))))]
def qa362 : List AV := [(.d (.v (.string (.mk (#[97])))))]
def qa361 : List AV := [qa369]
def qa360 : List AV := [(.d qa375)]
def qa359 : AV := (.d (.v (.string (.mk (#[45, 50])))))
def qa358 : DV := (.v (.string (.mk (#[109, 97, 121]))))
def qa357 : DV := (.v (.string (.mk (#[111, 102, 102]))))
def qa356 : List DV := [(.v (.int .i64 2)), (.v (.int .i64 0))]
def qa355 : List AV := [(.d qa368)]
def qa354 : List AV := [(.d (.sl 0 [])), (.d (.v (.int .i64 2)))]
def qa353 : List AV := [(.d (.sl 0 [])), (.d (.v (.int .i64 1)))]
def qa352 : List AV := [(.d (.sl 0 [])), (.d (.v (.int .i64 0)))]
def qa351 : List AV := [(.d qa358)]
def qa350 : List AV := [(.d qa357)]
def qa349 : DV := (.sl 2 [(.v (.int .i64 1)), (.v (.int .i64 0))])
def qa348 : DV := (.sl 1 [(.v (.int .i64 1)), (.v (.int .i64 2))])
def qa347 : DV := (.sl 1 [(.v (.int .i64 0)), (.v (.int .i64 1))])
def qa346 : List AV := [(.d (.v (.bool true))), (.d (.v (.int .i64 7)))]
def qa345 : List AV := [(.d (.v (.bool true))), (.d (.v (.int .i64 35)))]
def qa344 : List AV := [(.d (.v (.bool false))), (.d (.v (.int .i64 7)))]
def qa343 : List AV := [(.d (.v (.bool false))), (.d (.v (.int .i64 2)))]
def qa342 : List AV := [(.d (.v (.bool true))), (.d (.v (.int .i64 32)))]
def qa341 : List AV := [(.d (.v (.bool false))), (.d (.v (.int .i64 4)))]
def qa340 : List DV := [(.sl 2 [(.v (.int .i64 3)), (.v (.int .i64 0))])]
def qa339 : List AV := [(.d (.v (.bool false))), (.d (.v (.int .i64 9)))]
def qa338 : List AV := [(.d (.v (.bool false))), (.d (.v (.int .i64 8)))]
def qa337 : List AV := [(.d (.v (.bool false))), (.d (.v (.int .i64 5)))]
def qa336 : List AV := [(.d (.v (.bool false))), (.d (.v (.int .i64 6)))]
def qa335 : List AV := [(.d (.v (.bool false))), (.d (.v (.int .i64 3)))]
def qa334 : List AV := [(.d (.v (.int .i64 0))), (.d (.v (.int .i64 10)))]
def qa333 : List AV := [(.d (.v (.int .i64 1))), (.d (.v (.int .i64 10)))]
def qa332 : List AV := [(.d (.v (.bool false))), (.d (.v (.int .i64 35)))]
def qa331 : List AV := [(.d (.v (.bool false))), (.d (.v (.int .i64 20)))]
def qa330 : List AV := [(.d (.v (.bool false))), (.d (.v (.int .i64 31)))]
def qa329 : List AV := [(.d (.v (.bool false))), (.d (.v (.int .i64 16)))]
def qa328 : List AV := [(.d (.v (.bool false))), (.d (.v (.int .i64 32)))]
def qa327 : List AV := [(.d (.v (.bool false))), (.d (.v (.int .i64 13)))]
def qa326 : List AV := [(.d (.v (.bool false))), (.d (.v (.int .i64 10)))]
def qa325 : List AV := [(.d (.v (.bool false))), (.d (.v (.int .i64 24)))]
def qa324 : List AV := [(.d (.v (.bool false))), (.d (.v (.int .i64 21)))]
def qa323 : List AV := [(.d (.v (.bool false))), (.d (.v (.int .i64 12)))]
def qa322 : AV := (.d (.sl 2 [(.v (.int .i64 2)), (.v (.int .i64 1))]))
def qa321 : AV := (.d qa349)
def qa320 : AV := (.d (.sl 2 [(.v (.int .i64 0)), (.v (.int .i64 1))]))
def qa319 : AV := (.d (.sl 2 [(.v (.int .i64 3)), (.v (.int .i64 0))]))
def qa318 : AV := (.d (.sl 2 [(.v (.int .i64 0)), (.v (.int .i64 0))]))
def qa317 : AV := (.d (.sl 2 [(.v (.int .i64 2)), (.v (.int .i64 3))]))
def qa316 : AV := (.d qa348)
def qa315 : AV := (.d (.sl 1 qa356))
def qa314 : AV := (.d (.sl 1 [(.v (.int .i64 1)), (.v (.int .i64 1))]))
def qa313 : AV := (.d qa347)
def qa312 : List AV := [(.d (.v (.int .i64 (-2)))), (.d (.v (.int .i64 10)))]
def qa311 : List AV := [qa322]
def qa310 : List AV := [qa318]
def qa309 : AV := (.d (.sl 1 [(.v (.int .i64 1)), (.v (.int .i64 (-2)))]))
def qa308 : AV := (.tup [(.d (.v (.int .i64 3))), (.d (.v (.bool true)))])
def qa307 : AV := (.tup [(.d (.v (.int .i64 4))), (.d (.v (.bool true)))])
def qa306 : AV := (.tup [(.d (.v (.int .i64 2))), (.d (.v (.bool true)))])
def qa305 : AV := (.tup [(.d (.v (.int .i64 1))), (.d (.v (.bool true)))])
def qa304 : AV := (.tup [(.d (.v (.int .i64 0))), (.d (.v (.bool true)))])
def qa303 : AV := (.tup [(.d (.v (.int .i64 7))), (.d (.v (.bool true)))])
def qa302 : List AV := [(.d (.sl 2 [(.v (.int .i64 32)), (.v (.int .i64 0))]))]
def qa301 : AV := (.d (.sl 1 [(.v (.int .i64 1)), (.v (.int .i64 (-1)))]))
def qa300 : AV := (.tup [(.d (.v (.int .i64 63))), (.d (.v (.bool true)))])
def qa299 : AV := (.tup [(.d (.v (.int .i64 31))), (.d (.v (.bool true)))])
def qa298 : AV := (.tup [(.d (.v (.int .i64 0))), (.d (.v (.int .i64 7)))])
def qa297 : AV := (.tup [(.d (.v (.int .i64 0))), (.d (.v (.bool false)))])
def qa296 : AV := (.tup [(.d (.v (.int .i64 15))), (.d (.v (.bool true)))])
def qa295 : AV := (.tup [(.d (.v (.int .i64 7))), (.d (.v (.int .i64 0)))])
def qa294 : AV := (.agg [(.d (.v (.int .i64 0))), (.d (.v (.int .i64 4)))])
def qa293 : AV := (.agg [(.d (.v (.int .i64 4))), (.d (.v (.int .i64 8)))])
def qa292 : AV := (.agg [(.d (.v (.int .i64 4))), (.d (.v (.int .i64 0)))])
def qa291 : AV := (.agg [(.d (.v (.int .i64 2))), (.d (.v (.int .i64 2)))])
def qa290 : AV := (.agg [(.d (.v (.int .i64 1))), (.d (.v (.int .i64 0)))])
def qa289 : AV := (.agg [(.d (.v (.int .i64 2))), (.d (.v (.int .i64 0)))])
def qa288 : AV := (.agg [(.d (.v (.int .i64 1))), (.d (.v (.int .i64 1)))])
def qa287 : AV := (.tup [(.d (.v (.int .i64 15))), (.d (.v (.int .i64 0)))])
def qa286 : List AV := [(.agg [(.d (.v (.int .i64 1))), (.d (.v (.int .i64 2)))])]
def qa285 : List AV := [qa289]
def qa284 : List AV := [qa288]
def qa283 : List AV := [(.agg [(.d (.v (.int .i64 0))), (.d (.v (.int .i64 1)))])]
def qa282 : AV := (.tup [(.d (.v (.int .i64 8200))), (.d (.v (.int .i64 0)))])
def qa281 : AV := (.agg [(.d (.v (.int .i64 (-8)))), (.d (.v (.int .i64 4)))])
def qa280 : AV := (.agg [(.d (.v (.int .i64 (-1)))), (.d (.v (.int .i64 3)))])
def qa279 : List AV := [(.agg [(.d (.v (.int .i64 1))), (.d (.v (.int .i64 (-2))))])]
def qa278 : List AV := [(.agg [(.d (.v (.int .i64 1))), (.d (.v (.int .i64 (-1))))])]
def qa277 : DV := (.sl 3 [(.v (.int .i64 1)), (.v (.int .i64 1)), (.v (.int .i64 1))])
def qa276 : List AV := [qa371, qa371]
def qa275 : List AV := [qa370, qa371]
def qa274 : DV := (.sl 3 [(.v (.int .i64 0)), (.v (.int .i64 (-1))), (.v (.int .i64 1))])
def qa273 : DV := (.sl 3 [(.v (.int .i64 1)), (.v (.int .i64 1)), (.v (.int .i64 (-1)))])
def qa272 : DV := (.sl 3 [(.v (.int .i64 1)), (.v (.int .i64 0)), (.v (.int .i64 (-1)))])
def qa271 : AV := (.d (.sl 3 [(.v (.int .i64 5)), (.v (.int .i64 2)), (.v (.int .i64 0))]))
def qa270 : AV := (.d (.sl 3 [(.v (.int .i64 6)), (.v (.int .i64 2)), (.v (.int .i64 0))]))
def qa269 : AV := (.d (.sl 3 [(.v (.int .i64 6)), (.v (.int .i64 4)), (.v (.int .i64 0))]))
def qa268 : AV := (.d qa277)
def qa267 : AV := (.d (.sl 3 [(.v (.int .i64 2)), (.v (.int .i64 1)), (.v (.int .i64 3))]))
def qa266 : AV := (.d (.sl 3 [(.v (.int .i64 2)), (.v (.int .i64 1)), (.v (.int .i64 0))]))
def qa265 : AV := (.d (.sl 3 [(.v (.int .i64 0)), (.v (.int .i64 0)), (.v (.int .i64 0))]))
def qa264 : List AV := [(.d (.v (.int .i64 0))), (.d (.v (.int .i64 0))), (.d (.v (.int .i64 1)))]
def qa263 : List AV := [(.d (.v (.int .i64 2))), (.d (.v (.int .i64 0))), (.d (.v (.int .i64 3)))]
def qa262 : List AV := [(.d (.v (.int .i64 1))), (.d (.v (.int .i64 0))), (.d (.v (.int .i64 1)))]
def qa261 : List AV := [(.d (.v (.int .i64 3))), (.d (.v (.int .i64 0))), (.d (.v (.int .i64 3)))]
def qa260 : List AV := [(.d (.v (.int .i64 2))), (.d (.v (.int .i64 0))), (.d (.v (.int .i64 6)))]
def qa259 : List AV := [(.d (.v (.int .i64 1))), (.d (.v (.int .i64 0))), (.d (.v (.int .i64 6)))]
def qa258 : List AV := [(.d (.v (.int .i64 4))), (.d (.v (.int .i64 0))), (.d (.v (.int .i64 6)))]
def qa257 : List AV := [(.d (.v (.int .i64 6))), (.d (.v (.int .i64 0))), (.d (.v (.int .i64 6)))]
def qa256 : List AV := [(.d (.v (.int .i64 2))), (.d (.v (.int .i64 1))), (.d (.v (.int .i64 3)))]
def qa255 : List AV := [(.d (.v (.int .i64 1))), (.d (.v (.int .i64 1))), (.d (.v (.int .i64 3)))]
def qa254 : List AV := [qa265]
def qa253 : List AV := [(.d (.v (.int .i64 1))), (.d (.v (.int .i64 1))), (.d (.v (.int .i64 8)))]
def qa252 : AV := (.d (.sl 3 [(.v (.int .i64 1)), (.v (.int .i64 (-1))), (.v (.int .i64 1))]))
def qa251 : AV := (.d qa274)
def qa250 : AV := (.d qa273)
def qa249 : AV := (.d qa272)
def qa248 : AV := (.d (.sl 3 [(.v (.int .i64 100)), (.v (.int .i64 10)), (.v (.int .i64 0))]))
def qa247 : List AV := [(.d (.v (.int .i64 5))), qa371, (.d (.sl 0 []))]
def qa246 : List AV := [(.d (.v (.int .i64 4))), qa370, (.d (.sl 0 []))]
def qa245 : AV := (.d (.v (.string (.mk (#[110, 111, 100, 101, 32, 116, 32, 48, 32, 48, 10])))))
def qa244 : List AV := [(.d (.v (.int .i64 0))), (.d (.v (.int .i64 (-1)))), (.d (.v (.int .i64 1)))]
def qa243 : List AV := [(.d (.v (.int .i64 1))), (.d (.v (.int .i64 (-1)))), (.d (.v (.int .i64 1)))]
def qa242 : List AV := [(.d (.v (.int .i64 5))), (.d (.v (.int .i64 0))), (.d (.v (.int .i64 1024)))]
def qa241 : List AV := [(.d (.v (.int .i64 10))), (.d (.v (.int .i64 1))), (.d (.v (.int .i64 100)))]
def qa240 : List AV := [(.d (.v (.int .i64 2))), (.d (.v (.int .i64 (-2)))), (.d (.v (.int .i64 2)))]
def qa239 : List AV := [(.d (.v (.int .i64 1))), (.d (.v (.int .i64 (-2)))), (.d (.v (.int .i64 2)))]
def qa238 : List AV := [(.d (.v (.int .i64 0))), (.d (.v (.int .i64 (-2)))), (.d (.v (.int .i64 2)))]
def qa237 : List AV := [qa320, (.d (.v (.int .i64 1)))]
def qa236 : List AV := [qa321, (.d (.v (.int .i64 0)))]
def qa235 : List AV := [qa319, (.d (.v (.int .i64 0)))]
def qa234 : List AV := [qa319, (.d (.v (.int .i64 1)))]
def qa233 : List AV := [qa319, (.d (.v (.int .i64 2)))]
def qa232 : List AV := [(.d (.v (.int .i64 (-2)))), (.d (.v (.int .i64 (-2)))), (.d (.v (.int .i64 2)))]
def qa231 : List AV := [(.d (.v (.int .i64 5))), (.d (.v (.int .i64 0))), (.d (.v (.int .i64 1000000)))]
def qa230 : List AV := [(.d (.v (.int .i64 4))), (.d (.v (.int .i64 0))), (.d (.v (.int .i64 1000000)))]
def qa229 : List AV := [(.d (.v (.int .i64 (-1)))), (.d (.v (.int .i64 (-1)))), (.d (.v (.int .i64 1)))]
def qa228 : List AV := [(.d (.v (.int .i64 1))), (.ip [(.v (.int .i64 0))]), (.ip [(.v (.int .i64 6))])]
def qa227 : List AV := [(.d (.v (.int .i64 2))), (.ip [(.v (.int .i64 0))]), (.ip [(.v (.int .i64 6))])]
def qa226 : List AV := [(.d (.v (.int .i64 1))), (.d (.v (.int .i64 1))), (.d (.v (.int .i64 1000000)))]
def qa225 : List AV := [(.d (.v (.int .i64 (-1)))), (.d (.v (.int .i64 (-2)))), (.d (.v (.int .i64 2)))]
def qa224 : List AV := [(.d (.v (.int .i64 400))), (.d (.v (.int .i64 0))), (.d (.v (.int .i64 100000)))]
def qa223 : List AV := [(.d (.v (.int .i64 20))), (.d (.v (.int .i64 1))), (.d (.v (.int .i64 1000000)))]
def qa222 : AV := (.agg [(.d (.v (.int .i64 0))), (.d (.v (.int .i64 1))), (.d (.v (.bool false)))])
def qa221 : AV := (.agg [(.d (.v (.int .i64 2))), (.d (.v (.int .i64 0))), (.d (.v (.bool false)))])
def qa220 : AV := (.agg [(.d (.v (.int .i64 1))), (.d (.v (.int .i64 2))), (.d (.v (.bool false)))])
def qa219 : AV := (.agg [(.d (.v (.int .i64 1))), (.d (.v (.int .i64 1))), (.d (.v (.bool false)))])
def qa218 : List AV := [(.d (.v (.int .i64 10))), (.d (.v (.int .i64 0))), (.d (.v (.int .i64 10000000)))]
def qa217 : List AV := [(.agg [(.d (.v (.int .i64 1))), (.d (.v (.int .i64 2))), (.d (.v (.bool true)))])]
def qa216 : List AV := [(.d (.v (.int .i64 0))), (.ip [qa349])]
def qa215 : List AV := [(.d (.v (.int .i64 0))), (.ip qa340)]
def qa214 : List AV := [(.d (.v (.int .i64 1))), (.ip qa340)]
def qa213 : List AV := [(.d (.v (.int .i64 2))), (.ip qa340)]
def qa212 : AV := (.agg qa247)
def qa211 : AV := (.agg qa246)
def qa210 : List AV := [(.d (.v (.int .i64 0))), (.ip [(.v (.int .i64 (-1)))]), (.ip [(.v (.int .i64 1))])]
def qa209 : List AV := [(.d (.v (.int .i64 1))), (.ip [(.v (.int .i64 (-1)))]), (.ip [(.v (.int .i64 1))])]
def qa208 : List AV := [(.d (.v (.int .i64 0))), (.d (.v (.int .i64 0))), (.d (.v (.int .i64 1000000000)))]
def qa207 : List AV := [qa222]
def qa206 : List AV := [qa221]
def qa205 : List AV := [qa220]
def qa204 : List AV := [qa219]
def qa203 : List AV := [qa371, (.d (.v (.int .i64 0))), (.d (.v (.int .i64 6)))]
def qa202 : List AV := [qa370, (.d (.v (.int .i64 0))), (.d (.v (.int .i64 6)))]
def qa201 : List AV := [(.d (.v (.int .i64 10))), (.d (.v (.int .i64 0))), (.d (.v (.int .i64 1000000000)))]
def qa200 : AV := (.agg [(.d (.v (.int .i64 1))), (.d (.v (.int .i64 (-1)))), (.d (.v (.bool false)))])
def qa199 : List AV := [qa212]
def qa198 : List AV := [qa211]
def qa197 : List AV := [(.d (.v (.int .i64 100))), (.d (.v (.int .i64 0))), (.d (.v (.int .i64 1000000000)))]
def qa196 : List AV := [(.d (.v (.int .i64 (-1)))), (.ip [(.v (.int .i64 (-1)))]), (.ip [(.v (.int .i64 1))])]
def qa195 : List AV := [(.d (.v (.int .i64 1))), (.ip [(.v (.int .i64 1))]), (.ip [(.v (.int .i64 1000000))])]
def qa194 : List AV := [qa200]
def qa193 : List AV := [(.d (.v (.int .i64 0))), (.ip [(.v (.int .i64 0))]), (.ip qa376)]
def qa192 : List AV := [(.d (.v (.int .i64 10))), (.ip [(.v (.int .i64 0))]), (.ip qa376)]
def qa191 : AV := (.tup [qa294, (.d (.v (.int .i64 0)))])
def qa190 : List AV := [(.d (.v (.int .i64 100))), (.ip [(.v (.int .i64 0))]), (.ip qa376)]
def qa189 : AV := (.tup [(.agg [(.d (.v (.int .i64 0))), (.d (.v (.int .i64 0)))]), (.d (.v (.int .i64 32)))])
def qa188 : AV := (.tup [(.agg [(.d (.v (.int .i64 16))), (.d (.v (.int .i64 80)))]), (.d (.v (.int .i64 0)))])
def qa187 : AV := (.d (.sl 4 [(.v (.int .i64 2)), (.v (.int .i64 1)), (.v (.int .i64 0)), (.v (.int .i64 3))]))
def qa186 : AV := (.tup [qa281, (.d (.v (.int .i64 0)))])
def qa185 : AV := (.tup [qa280, (.d (.v (.int .i64 0)))])
def qa184 : List AV := [(.d (.v (.int .i64 4))), qa370, qa371]
def qa183 : List AV := [(.d (.sl 4 [(.v (.int .i64 0)), (.v (.int .i64 0)), (.v (.int .i64 0)), (.v (.int .i64 0))]))]
def qa182 : List AV := [(.d (.sl 4 [(.v (.int .i64 0)), (.v (.int .i64 0)), (.v (.int .i64 35)), (.v (.int .i64 0))]))]
def qa181 : List AV := [qa316, (.d (.v (.func (.func 162) (#[]) (#[]))))]
def qa180 : List AV := [qa315, (.d (.v (.func (.func 162) (#[]) (#[]))))]
def qa179 : List AV := [qa314, (.d (.v (.func (.func 162) (#[]) (#[]))))]
def qa178 : List AV := [qa313, (.d (.v (.func (.func 162) (#[]) (#[]))))]
def qa177 : List AV := [qa309, (.d (.v (.func (.func 162) (#[]) (#[]))))]
def qa176 : List AV := [qa301, (.d (.v (.func (.func 162) (#[]) (#[]))))]
def qa175 : AV := (.agg qa184)
def qa174 : List AV := [qa175]
def qa173 : List AV := [qa322, (.d (.v (.int .i64 0))), (.d (.v (.int .i64 6)))]
def qa172 : AV := (.tup [qa269, (.d (.v (.int .i64 0)))])
def qa171 : AV := (.d (.sl 5 [(.v (.bool true)), (.v (.bool false)), (.v (.bool true)), (.v (.bool true)), (.v (.bool true))]))
def qa170 : AV := (.tup [qa252, (.d (.v (.int .i64 0)))])
def qa169 : List AV := [qa212, (.d (.v (.int .i64 4)))]
def qa168 : AV := (.d (.sl 2 [(.sl 2 [(.v (.int .i64 3)), (.v (.int .i64 1))]), (.sl 2 qa356)]))
def qa165 : DV := (.sl 1 [(.v (.int .i64 1)), qa368, qa348])
def qa164 : List AV := [(.d (.sl 5 [(.v (.int .i64 0)), (.v (.int .i64 0)), (.v (.int .i64 0)), (.v (.int .i64 0)), (.v (.int .i64 0))]))]
def qa163 : List AV := [qa369, (.fn (.func 156) [] [(.ip [qa349])])]
def qa162 : AV := (.tup [(.agg [(.d (.v (.int .i64 0))), (.d (.sl 0 [])), (.d (.sl 0 []))]), (.d (.sl 0 [])), (.d (.v (.int .i64 35)))])
def qa161 : AV := (.tup [qa212, (.d (.v (.int .i64 0)))])
def qa160 : DV := (.sl 1 [(.v (.int .i64 1)), qa358, qa348])
def qa159 : DV := (.sl 1 [(.v (.int .i64 1)), qa357, qa348])
def qa158 : List AV := [qa187, (.d (.v (.int .i64 1)))]
def qa157 : List AV := [qa211, qa371]
def qa156 : AV := (.tup [qa187, (.d (.v (.int .i64 0)))])
def qa155 : List AV := [qa175, (.d (.v (.int .i64 5)))]
def qa154 : AV := (.d (.sl 3 [qa368, qa357, qa358]))
def qa153 : List AV := [qa251, (.d (.v (.int .i64 (-1)))), (.d (.v (.int .i64 1)))]
def qa152 : List AV := [qa250, (.d (.v (.int .i64 (-1)))), (.d (.v (.int .i64 1)))]
def qa151 : List AV := [qa249, (.d (.v (.int .i64 (-1)))), (.d (.v (.int .i64 1)))]
def qa150 : List AV := [qa268, (.d (.v (.int .i64 1))), (.d (.v (.int .i64 1000000)))]
def qa149 : AV := (.d (.sl 2 [(.v (.int .i64 1)), (.v (.int .i64 1)), (.v (.bool false)), (.v (.int .i64 1)), (.v (.int .i64 2)), (.v (.bool false))]))
def qa147 : AV := (.tup [qa175, (.d (.v (.int .i64 0)))])
def qa146 : List AV := [qa248, (.d (.v (.int .i64 0))), (.d (.v (.int .i64 1000000000)))]
def qa145 : AV := (.tup [qa212, (.d (.v (.int .i64 5))), (.d (.v (.int .i64 0)))])
def qa144 : AV := (.tup [qa171, (.d (.v (.int .i64 0)))])
def qa143 : List AV := [qa222, qa292]
def qa142 : List AV := [qa222, qa293]
def qa141 : List AV := [qa220, qa292]
def qa140 : List AV := [qa219, qa289]
def qa139 : List AV := [qa221, qa290]
def qa138 : List AV := [qa220, qa288]
def qa137 : List AV := [qa219, qa290]
def qa136 : List AV := [qa212, (.d (.v (.int .i64 5))), qa371]
def qa135 : List AV := [qa211, (.d (.v (.int .i64 5))), qa371]
def qa134 : List AV := [qa200, qa291]
def qa133 : AV := (.tup [qa168, (.d (.v (.int .i64 0)))])
def qa132 : AV := (.d (.sl 4 [(.v (.string (.mk (#[110, 111, 100, 101])))), qa375, qa378, qa378]))
def qa131 : List AV := [qa271, qa271]
def qa130 : List AV := [qa270, qa270]
def qa129 : List AV := [qa269, qa269]
def qa128 : List AV := [qa267, qa267]
def qa127 : AV := (.tup [qa212, qa371, (.d (.v (.int .i64 0)))])
def qa126 : List AV := [qa252, qa252]
def qa125 : List AV := [qa266, (.fn (.func 156) [] [(.ip qa340)])]
def qa120 : AV := (.tup [qa175, (.d (.v (.int .i64 5))), (.d (.v (.int .i64 0)))])
def qa119 : List AV := [qa322, qa171]
def qa117 : List AV := [qa132, (.d (.sl 0 []))]
def qa116 : List AV := [qa154, (.d qa368)]
def qa115 : List AV := [qa154, (.d qa358)]
def qa114 : List AV := [qa154, (.d qa357)]
def qa113 : List AV := [qa149, (.d (.v (.func (.func 165) (#[]) (#[]))))]
def qa112 : List AV := [qa132, qa374]
def qa111 : List AV := [(.d (.sl 4 [(.v (.string (.mk (#[109, 97, 105, 110, 115])))), qa377, qa378, qa377])), qa374]
def qa110 : List AV := [qa187, qa187]
def qa109 : List AV := [qa322, qa168, (.d (.v (.int .i64 5)))]
def qa108 : List AV := [qa171, qa171]
def qa107 : List AV := [(.d (.sl 5 [(.v (.string (.mk (#[108, 111, 97, 100])))), qa378, qa368, qa377, (.v (.string (.mk (#[45, 50]))))])), qa374]
def qa106 : AV := (.tup [(.d (.v (.string (.mk (#[109, 97, 105, 110, 115, 32, 49, 32, 48, 32, 49, 10, 110, 111, 100, 101, 32, 116, 32, 48, 32, 48, 10, 108, 111, 97, 100, 32, 48, 32, 111, 110, 32, 49, 32, 45, 50, 10]))))), (.d (.v (.int .i64 0)))])
def qa105 : List AV := [qa168, qa168]
def qa104 : List AV := [(.d (.sl 3 [qa272, qa273, qa274]))]
def qa103 : AV := (.agg [qa248, (.d (.sl 1 [qa277])), (.d (.v (.int .i64 10))), (.d (.v (.int .i64 20))), (.d (.sl 0 []))])
def qa102 : List AV := [qa103]
def qa101 : AV := (.d (.sl 4 [(.v (.int .i64 2)), (.v (.int .i64 0)), (.v (.bool false)), (.v (.int .i64 1)), (.v (.int .i64 1)), (.v (.bool false)), (.v (.int .i64 1)), (.v (.int .i64 (-1))), (.v (.bool false)), (.v (.int .i64 0)), (.v (.int .i64 1)), (.v (.bool false))]))
def qa100 : List AV := [qa103, (.d (.v (.int .i64 0)))]
def qa99 : List AV := [qa103, (.d (.v (.int .i64 0))), (.d (.v (.int .i64 9)))]
def qa98 : List AV := [qa103, (.d (.v (.int .i64 0))), (.d (.v (.int .i64 2)))]
def qa97 : List AV := [qa103, (.d (.v (.int .i64 0))), (.d (.v (.int .i64 1)))]
def qa96 : List AV := [qa103, (.d (.v (.int .i64 0))), (.d (.v (.int .i64 0)))]
def qa95 : List AV := [qa103, (.d (.v (.int .i64 0))), (.d (.v (.int .i64 10)))]
def qa94 : List AV := [qa101, (.d (.v (.func (.func 165) (#[]) (#[]))))]
def qa93 : AV := (.d (.sl 5 [(.v (.int .i64 2)), (.v (.int .i64 0)), (.v (.bool false)), (.v (.int .i64 1)), (.v (.int .i64 1)), (.v (.bool false)), (.v (.int .i64 1)), (.v (.int .i64 (-1))), (.v (.bool false)), (.v (.int .i64 1)), (.v (.int .i64 2)), (.v (.bool true)), (.v (.int .i64 0)), (.v (.int .i64 1)), (.v (.bool false))]))
def qa92 : List AV := [qa103, (.d (.v (.int .i64 0))), (.d (.v (.int .i64 2))), (.d (.v (.int .i64 6)))]
def qa91 : List AV := [qa103, (.d (.v (.int .i64 0))), (.d (.v (.int .i64 2))), (.d (.v (.int .i64 5)))]
def qa90 : List AV := [qa103, (.d (.v (.int .i64 0))), (.d (.v (.int .i64 2))), (.d (.v (.int .i64 4)))]
def qa89 : List AV := [qa103, (.d (.v (.int .i64 0))), (.d (.v (.int .i64 2))), (.d (.v (.int .i64 3)))]
def qa88 : List AV := [qa103, (.d (.v (.int .i64 0))), (.d (.v (.int .i64 2))), (.d (.v (.int .i64 2)))]
def qa87 : List AV := [qa103, (.d (.v (.int .i64 0))), (.d (.v (.int .i64 2))), (.d (.v (.int .i64 0)))]
def qa86 : List AV := [qa103, (.d (.v (.int .i64 0))), (.d (.v (.int .i64 1))), (.d (.v (.int .i64 6)))]
def qa85 : List AV := [qa103, (.d (.v (.int .i64 0))), (.d (.v (.int .i64 1))), (.d (.v (.int .i64 5)))]
def qa84 : List AV := [qa103, (.d (.v (.int .i64 0))), (.d (.v (.int .i64 1))), (.d (.v (.int .i64 3)))]
def qa83 : List AV := [qa103, (.d (.v (.int .i64 0))), (.d (.v (.int .i64 1))), (.d (.v (.int .i64 2)))]
def qa82 : List AV := [qa103, (.d (.v (.int .i64 0))), (.d (.v (.int .i64 1))), (.d (.v (.int .i64 1)))]
def qa81 : List AV := [qa103, (.d (.v (.int .i64 0))), (.d (.v (.int .i64 1))), (.d (.v (.int .i64 0)))]
def qa80 : List AV := [qa103, (.d (.v (.int .i64 0))), (.d (.v (.int .i64 0))), (.d (.v (.int .i64 5)))]
def qa79 : List AV := [qa103, (.d (.v (.int .i64 0))), (.d (.v (.int .i64 0))), (.d (.v (.int .i64 4)))]
def qa78 : List AV := [qa103, (.d (.v (.int .i64 0))), (.d (.v (.int .i64 0))), (.d (.v (.int .i64 3)))]
def qa77 : List AV := [qa103, (.d (.v (.int .i64 0))), (.d (.v (.int .i64 0))), (.d (.v (.int .i64 2)))]
def qa76 : List AV := [qa103, (.d (.v (.int .i64 0))), (.d (.v (.int .i64 0))), (.d (.v (.int .i64 1)))]
def qa75 : List AV := [qa103, (.d (.v (.int .i64 0))), (.d (.v (.int .i64 0))), (.d (.v (.int .i64 0)))]
def qa74 : List AV := [qa103, (.d (.v (.int .i64 0))), (.d (.v (.int .i64 2))), (.d (.v (.int .i64 1)))]
def qa73 : List AV := [qa103, (.d (.v (.int .i64 0))), (.d (.v (.int .i64 1))), (.d (.v (.int .i64 4)))]
def qa72 : List AV := [qa103, (.d (.v (.int .i64 0))), (.d (.v (.int .i64 0))), (.d (.v (.int .i64 6)))]
def qa71 : AV := (.d (.sl 5 [(.v (.int .i64 2)), (.v (.int .i64 0)), (.v (.bool false)), (.v (.int .i64 1)), (.v (.int .i64 1)), (.v (.bool false)), (.v (.int .i64 1)), (.v (.int .i64 (-1))), (.v (.bool false)), (.v (.int .i64 1)), (.v (.int .i64 2)), (.v (.bool false)), (.v (.int .i64 0)), (.v (.int .i64 1)), (.v (.bool false))]))
def qa70 : List AV := [qa103, (.d (.v (.int .i64 0))), (.d (.v (.int .i64 10))), (.d (.v (.int .i64 400)))]
def qa69 : AV := (.agg [(.d (.v (.int .i64 1))), qa313, (.d (.sl 1 [qa375, (.v (.int .i64 0)), (.v (.int .i64 0)), (.v (.slice .none 0 0))])), (.d (.sl 1 [(.v (.int .i64 0)), qa368, (.sl 1 [(.v (.int .i64 1)), (.v (.int .i64 (-2)))])]))])
def qa68 : List AV := [qa69]
def qa67 : List AV := [qa69, (.d (.v (.int .i64 0)))]
def qa66 : List AV := [qa93, (.d (.v (.func (.func 165) (#[]) (#[]))))]
def qa65 : List AV := [qa71, (.d (.v (.func (.func 165) (#[]) (#[]))))]
def qa64 : List AV := [qa69, qa313]
def qa63 : List AV := [qa69, qa309]
def qa62 : DV := (.sl 4 [qa375, (.v (.int .i64 0)), (.v (.int .i64 0)), (.v (.slice .none 0 0)), (.v (.string (.mk (#[97])))), (.v (.int .i64 0)), (.v (.int .i64 1)), (.sl 1 [(.v (.int .i64 1)), (.v (.int .i64 1))]), (.v (.string (.mk (#[98])))), (.v (.int .i64 1)), (.v (.int .i64 1)), (.sl 1 qa356), (.v (.string (.mk (#[99])))), (.v (.int .i64 0)), (.v (.int .i64 2)), (.sl 1 [(.v (.int .i64 1)), (.v (.int .i64 (-1)))])])
def qa61 : AV := (.d qa62)
def qa60 : List DV := [(.v (.int .i64 1)), qa347, qa62, qa165]
def qa59 : List DV := [(.v (.int .i64 1)), qa347, qa62, qa160]
def qa58 : List DV := [(.v (.int .i64 1)), qa347, qa62, qa159]
def qa57 : AV := (.agg [(.d (.v (.int .i64 1))), qa313, qa61, (.d qa165)])
def qa56 : List AV := [qa57]
def qa55 : AV := (.agg [(.d (.v (.int .i64 1))), qa313, qa61, (.d qa160)])
def qa54 : AV := (.agg [(.d (.v (.int .i64 1))), qa313, qa61, (.d qa159)])
def qa53 : List AV := [qa55]
def qa52 : List AV := [(.d (.v (.int .i64 1))), (.ip qa60)]
def qa51 : List AV := [(.d (.v (.int .i64 0))), (.ip qa60)]
def qa50 : List AV := [(.d (.v (.int .i64 3))), (.ip qa60)]
def qa49 : List AV := [(.d (.v (.int .i64 2))), (.ip qa60)]
def qa48 : List AV := [qa54]
def qa47 : List AV := [(.d (.v (.int .i64 3))), (.ip qa59)]
def qa46 : List AV := [(.d (.v (.int .i64 2))), (.ip qa59)]
def qa45 : List AV := [(.d (.v (.int .i64 3))), (.ip qa58)]
def qa44 : List AV := [(.d (.v (.int .i64 2))), (.ip qa58)]
def qa43 : List AV := [qa57, (.d (.v (.int .i64 3)))]
def qa42 : List AV := [qa57, (.d (.v (.int .i64 2)))]
def qa41 : List AV := [qa57, (.d (.v (.int .i64 1)))]
def qa40 : List AV := [qa57, (.d (.v (.int .i64 0)))]
def qa39 : List AV := [qa55, (.d (.v (.int .i64 3)))]
def qa38 : List AV := [qa55, (.d (.v (.int .i64 2)))]
def qa37 : List AV := [qa55, (.d (.v (.int .i64 1)))]
def qa36 : List AV := [qa55, (.d (.v (.int .i64 0)))]
def qa35 : List AV := [qa54, (.d (.v (.int .i64 3)))]
def qa34 : List AV := [qa54, (.d (.v (.int .i64 2)))]
def qa33 : List AV := [qa54, (.d (.v (.int .i64 1)))]
def qa32 : List AV := [qa54, (.d (.v (.int .i64 0)))]
def qa31 : List AV := [qa57, (.d (.v (.int .i64 0))), (.d (.v (.int .i64 0)))]
def qa30 : List AV := [qa57, (.d (.v (.int .i64 0))), (.d (.v (.int .i64 1)))]
def qa29 : List AV := [qa57, (.d (.v (.int .i64 2))), (.d (.v (.int .i64 3)))]
def qa28 : List AV := [qa55, (.d (.v (.int .i64 2))), (.d (.v (.int .i64 3)))]
def qa27 : List AV := [qa54, (.d (.v (.int .i64 2))), (.d (.v (.int .i64 3)))]
def qa26 : List AV := [qa57, qa320]
def qa25 : List AV := [qa57, qa317]
def qa24 : List AV := [qa57, qa316]
def qa23 : List AV := [qa57, qa315]
def qa22 : List AV := [qa57, qa314]
def qa21 : List AV := [qa57, qa313]
def qa20 : List AV := [qa320, (.fn (.func 153) [] [(.ip qa60)])]
def qa19 : List AV := [qa317, (.fn (.func 153) [] [(.ip qa60)])]
def qa18 : List AV := [qa57, qa301]
def qa17 : List AV := [qa55, qa317]
def qa16 : List AV := [qa55, qa316]
def qa15 : List AV := [qa55, qa315]
def qa14 : List AV := [qa55, qa314]
def qa13 : List AV := [qa55, qa313]
def qa12 : List AV := [qa54, qa317]
def qa11 : List AV := [qa54, qa316]
def qa10 : List AV := [qa54, qa315]
def qa9 : List AV := [qa54, qa314]
def qa8 : List AV := [qa54, qa313]
def qa7 : List AV := [qa317, (.fn (.func 153) [] [(.ip qa59)])]
def qa6 : List AV := [qa317, (.fn (.func 153) [] [(.ip qa58)])]
def qa5 : List AV := [qa55, qa301]
def qa4 : List AV := [qa54, qa301]
def qa3 : List AV := [qa57, (.d (.v (.int .i64 2))), (.d (.v (.int .i64 3))), (.d (.v (.int .i64 0)))]
def qa2 : List AV := [qa57, (.d (.v (.int .i64 0))), (.d (.v (.int .i64 1))), (.d (.v (.int .i64 0)))]
def qa1 : List AV := [qa55, (.d (.v (.int .i64 2))), (.d (.v (.int .i64 3))), (.d (.v (.int .i64 0)))]
def qa0 : List AV := [qa54, (.d (.v (.int .i64 2))), (.d (.v (.int .i64 3))), (.d (.v (.int .i64 0)))]
def aw0D : CT cfz := .run 28 [] <|  .fin
theorem aw0k : crun cfz 98 aw0D [] (ent cfz 98 qa355) = some (qa57, []) := by kernel_rfl
theorem aw0 : PureCalls cfz.P cfz.glob 98 qa355 qa57 := closed_ok knil (by kernel_rfl) aw0k trivial
def aw1D : CT cfz := .run 16 [] <|  .fin
theorem aw1k : crun cfz 109 aw1D [] (ent cfz 109 qa335) = some ((.d (.v (.int .i64 0))), []) := by kernel_rfl
theorem aw1 : PureCalls cfz.P cfz.glob 109 qa335 (.d (.v (.int .i64 0))) := closed_ok knil (by kernel_rfl) aw1k trivial
def aw2D : CT cfz := .run 14 [] <| .use aw1 <| .run 1 [(.ck 0)] <| .run 3 [] <|  .fin
theorem aw2k : crun cfz 106 aw2D [] (ent cfz 106 qa253) = some ((.d (.v (.int .i64 0))), [.eqA qa335 qa335]) := by kernel_rfl
theorem aw2 : PureCalls cfz.P cfz.glob 106 qa253 (.d (.v (.int .i64 0))) := closed_ok knil (by kernel_rfl) aw2k ⟨rfl, trivial⟩
def aw3D : CT cfz := .run 14 [] <| .use aw1 <| .run 1 [(.ck 0)] <| .run 3 [] <|  .fin
theorem aw3k : crun cfz 106 aw3D [] (ent cfz 106 qa238) = some ((.d (.v (.int .i64 0))), [.eqA qa335 qa335]) := by kernel_rfl
theorem aw3 : PureCalls cfz.P cfz.glob 106 qa238 (.d (.v (.int .i64 0))) := closed_ok knil (by kernel_rfl) aw3k ⟨rfl, trivial⟩
def aw4D : CT cfz := .run 14 [] <| .use aw1 <| .run 1 [(.ck 0)] <| .run 3 [] <|  .fin
theorem aw4k : crun cfz 106 aw4D [] (ent cfz 106 qa239) = some ((.d (.v (.int .i64 0))), [.eqA qa335 qa335]) := by kernel_rfl
theorem aw4 : PureCalls cfz.P cfz.glob 106 qa239 (.d (.v (.int .i64 0))) := closed_ok knil (by kernel_rfl) aw4k ⟨rfl, trivial⟩
def aw5D : CT cfz := .run 16 [] <|  .fin
theorem aw5k : crun cfz 109 aw5D [] (ent cfz 109 qa336) = some ((.d (.v (.int .i64 0))), []) := by kernel_rfl
theorem aw5 : PureCalls cfz.P cfz.glob 109 qa336 (.d (.v (.int .i64 0))) := closed_ok knil (by kernel_rfl) aw5k trivial
def aw6D : CT cfz := .run 109 [] <|  .fin
theorem aw6k : crun cfz 107 aw6D [] (ent cfz 107 qa254) = some ((.d (.v (.int .i64 0))), []) := by kernel_rfl
theorem aw6 : PureCalls cfz.P cfz.glob 107 qa254 (.d (.v (.int .i64 0))) := closed_ok knil (by kernel_rfl) aw6k trivial
def aw7D : CT cfz := .run 7 [] <| .use aw3 <| .use aw4 <| .use aw5 <| .use aw6 <| .run 1 [.none, (.ck 0), .none, (.ck 1), .none, (.ck 2), (.ck 3)] <| .run 1 [] <|  .fin
theorem aw7k : crun cfz 162 aw7D [] (ent cfz 162 qa283) = some ((.d (.v (.int .i64 0))), [.eqA qa238 qa238, .eqA qa239 qa239, .eqA qa336 qa336, .eqA qa254 qa254]) := by kernel_rfl
theorem aw7 : PureCalls cfz.P cfz.glob 162 qa283 (.d (.v (.int .i64 0))) := closed_ok knil (by kernel_rfl) aw7k ⟨rfl, rfl, rfl, rfl, trivial⟩
def aw8D : CT cfz := .run 37 [] <| .use aw7 <| .run 1 [(.ck 0)] <| .run 23 [] <|  .fin
theorem aw8k : crun cfz 161 aw8D [] (ent cfz 161 qa178) = some (qa369, [.eqA qa283 qa283]) := by kernel_rfl
theorem aw8 : PureCalls cfz.P cfz.glob 161 qa178 qa369 := closed_ok knil (by kernel_rfl) aw8k ⟨rfl, trivial⟩
def aw9D : CT cfz := .run 53 [] <|  .fin
theorem aw9k : crun cfz 107 aw9D [] (ent cfz 107 qa361) = some ((.d (.v (.int .i64 0))), []) := by kernel_rfl
theorem aw9 : PureCalls cfz.P cfz.glob 107 qa361 (.d (.v (.int .i64 0))) := closed_ok knil (by kernel_rfl) aw9k trivial
def aw10D : CT cfz := .run 19 [] <| .use aw8 <| .run 1 [(.ck 0)] <| .use aw9 <| .run 1 [(.ck 1)] <| .run 3 [] <|  .fin
theorem aw10k : crun cfz 108 aw10D [] (ent cfz 108 qa21) = some ((.d (.v (.int .i64 0))), [.eqA qa178 qa178, .eqA qa361 qa361]) := by kernel_rfl
theorem aw10 : PureCalls cfz.P cfz.glob 108 qa21 (.d (.v (.int .i64 0))) := closed_ok knil (by kernel_rfl) aw10k ⟨rfl, rfl, trivial⟩
def aw11D : CT cfz := .run 16 [] <|  .fin
theorem aw11k : crun cfz 109 aw11D [] (ent cfz 109 qa323) = some ((.d (.v (.int .i64 0))), []) := by kernel_rfl
theorem aw11 : PureCalls cfz.P cfz.glob 109 qa323 (.d (.v (.int .i64 0))) := closed_ok knil (by kernel_rfl) aw11k trivial
def aw12D : CT cfz := .run 16 [] <|  .fin
theorem aw12k : crun cfz 109 aw12D [] (ent cfz 109 qa337) = some ((.d (.v (.int .i64 0))), []) := by kernel_rfl
theorem aw12 : PureCalls cfz.P cfz.glob 109 qa337 (.d (.v (.int .i64 0))) := closed_ok knil (by kernel_rfl) aw12k trivial
def aw13D : CT cfz := .run 91 [] <|  .fin
theorem aw13k : crun cfz 110 aw13D [] (ent cfz 110 qa360) = some ((.d (.v (.bool true))), []) := by kernel_rfl
theorem aw13 : PureCalls cfz.P cfz.glob 110 qa360 (.d (.v (.bool true))) := closed_ok knil (by kernel_rfl) aw13k trivial
def aw14D : CT cfz := .run 16 [] <|  .fin
theorem aw14k : crun cfz 109 aw14D [] (ent cfz 109 qa338) = some ((.d (.v (.int .i64 0))), []) := by kernel_rfl
theorem aw14 : PureCalls cfz.P cfz.glob 109 qa338 (.d (.v (.int .i64 0))) := closed_ok knil (by kernel_rfl) aw14k trivial
def aw15D : CT cfz := .run 16 [] <|  .fin
theorem aw15k : crun cfz 109 aw15D [] (ent cfz 109 qa339) = some ((.d (.v (.int .i64 0))), []) := by kernel_rfl
theorem aw15 : PureCalls cfz.P cfz.glob 109 qa339 (.d (.v (.int .i64 0))) := closed_ok knil (by kernel_rfl) aw15k trivial
def aw16D : CT cfz := .run 16 [] <|  .fin
theorem aw16k : crun cfz 109 aw16D [] (ent cfz 109 qa324) = some ((.d (.v (.int .i64 0))), []) := by kernel_rfl
theorem aw16 : PureCalls cfz.P cfz.glob 109 qa324 (.d (.v (.int .i64 0))) := closed_ok knil (by kernel_rfl) aw16k trivial
def aw17D : CT cfz := .run 38 [] <| .use aw16 <| .run 1 [(.ck 0)] <| .run 3 [] <|  .fin
theorem aw17k : crun cfz 111 aw17D [] (ent cfz 111 qa40) = some ((.d (.v (.int .i64 0))), [.eqA qa324 qa324]) := by kernel_rfl
theorem aw17 : PureCalls cfz.P cfz.glob 111 qa40 (.d (.v (.int .i64 0))) := closed_ok knil (by kernel_rfl) aw17k ⟨rfl, trivial⟩
def aw18D : CT cfz := .run 91 [] <|  .fin
theorem aw18k : crun cfz 110 aw18D [] (ent cfz 110 qa362) = some ((.d (.v (.bool true))), []) := by kernel_rfl
theorem aw18 : PureCalls cfz.P cfz.glob 110 qa362 (.d (.v (.bool true))) := closed_ok knil (by kernel_rfl) aw18k trivial
def aw19D : CT cfz := .run 14 [] <| .use aw1 <| .run 1 [(.ck 0)] <| .run 3 [] <|  .fin
theorem aw19k : crun cfz 106 aw19D [] (ent cfz 106 qa255) = some ((.d (.v (.int .i64 0))), [.eqA qa335 qa335]) := by kernel_rfl
theorem aw19 : PureCalls cfz.P cfz.glob 106 qa255 (.d (.v (.int .i64 0))) := closed_ok knil (by kernel_rfl) aw19k ⟨rfl, trivial⟩
def aw20D : CT cfz := .run 16 [] <|  .fin
theorem aw20k : crun cfz 109 aw20D [] (ent cfz 109 qa325) = some ((.d (.v (.int .i64 0))), []) := by kernel_rfl
theorem aw20 : PureCalls cfz.P cfz.glob 109 qa325 (.d (.v (.int .i64 0))) := closed_ok knil (by kernel_rfl) aw20k trivial
def aw21D : CT cfz := .run 7 [] <| .use aw4 <| .use aw5 <| .use aw6 <| .run 1 [.none, (.ck 0), .none, (.ck 0), .none, (.ck 1), (.ck 2)] <| .run 1 [] <|  .fin
theorem aw21k : crun cfz 162 aw21D [] (ent cfz 162 qa284) = some ((.d (.v (.int .i64 0))), [.eqA qa239 qa239, .eqA qa239 qa239, .eqA qa336 qa336, .eqA qa254 qa254]) := by kernel_rfl
theorem aw21 : PureCalls cfz.P cfz.glob 162 qa284 (.d (.v (.int .i64 0))) := closed_ok knil (by kernel_rfl) aw21k ⟨rfl, rfl, rfl, rfl, trivial⟩
def aw22D : CT cfz := .run 37 [] <| .use aw21 <| .run 1 [(.ck 0)] <| .run 23 [] <|  .fin
theorem aw22k : crun cfz 161 aw22D [] (ent cfz 161 qa179) = some (qa369, [.eqA qa284 qa284]) := by kernel_rfl
theorem aw22 : PureCalls cfz.P cfz.glob 161 qa179 qa369 := closed_ok knil (by kernel_rfl) aw22k ⟨rfl, trivial⟩
def aw23D : CT cfz := .run 19 [] <| .use aw22 <| .run 1 [(.ck 0)] <| .use aw9 <| .run 1 [(.ck 1)] <| .run 3 [] <|  .fin
theorem aw23k : crun cfz 108 aw23D [] (ent cfz 108 qa22) = some ((.d (.v (.int .i64 0))), [.eqA qa179 qa179, .eqA qa361 qa361]) := by kernel_rfl
theorem aw23 : PureCalls cfz.P cfz.glob 108 qa22 (.d (.v (.int .i64 0))) := closed_ok knil (by kernel_rfl) aw23k ⟨rfl, rfl, trivial⟩
def aw24D : CT cfz := .run 40 [] <| .use aw19 <| .use aw20 <| .use aw23 <| .use aw6 <| .run 1 [.none, (.ck 0), .none, (.br false), (.br false), (.br false), (.br false), (.br false), (.br false), (.br false), (.br false), (.br false), (.br false), .none, (.ck 1), .none, .none, (.ck 2), (.ck 3)] <| .run 1 [] <|  .fin
theorem aw24k : crun cfz 111 aw24D [] (ent cfz 111 qa41) = some ((.d (.v (.int .i64 0))), [.eqA qa255 qa255, .eqA qa325 qa325, .eqA qa22 qa22, .eqA qa254 qa254]) := by kernel_rfl
theorem aw24 : PureCalls cfz.P cfz.glob 111 qa41 (.d (.v (.int .i64 0))) := closed_ok knil (by kernel_rfl) aw24k ⟨rfl, rfl, rfl, rfl, trivial⟩
def aw25D : CT cfz := .run 91 [] <|  .fin
theorem aw25k : crun cfz 110 aw25D [] (ent cfz 110 qa363) = some ((.d (.v (.bool true))), []) := by kernel_rfl
theorem aw25 : PureCalls cfz.P cfz.glob 110 qa363 (.d (.v (.bool true))) := closed_ok knil (by kernel_rfl) aw25k trivial
def aw26D : CT cfz := .run 14 [] <| .use aw1 <| .run 1 [(.ck 0)] <| .run 3 [] <|  .fin
theorem aw26k : crun cfz 106 aw26D [] (ent cfz 106 qa240) = some ((.d (.v (.int .i64 0))), [.eqA qa335 qa335]) := by kernel_rfl
theorem aw26 : PureCalls cfz.P cfz.glob 106 qa240 (.d (.v (.int .i64 0))) := closed_ok knil (by kernel_rfl) aw26k ⟨rfl, trivial⟩
def aw27D : CT cfz := .run 7 [] <| .use aw26 <| .use aw3 <| .use aw5 <| .use aw6 <| .run 1 [.none, (.ck 0), .none, (.ck 1), .none, (.ck 2), (.ck 3)] <| .run 1 [] <|  .fin
theorem aw27k : crun cfz 162 aw27D [] (ent cfz 162 qa285) = some ((.d (.v (.int .i64 0))), [.eqA qa240 qa240, .eqA qa238 qa238, .eqA qa336 qa336, .eqA qa254 qa254]) := by kernel_rfl
theorem aw27 : PureCalls cfz.P cfz.glob 162 qa285 (.d (.v (.int .i64 0))) := closed_ok knil (by kernel_rfl) aw27k ⟨rfl, rfl, rfl, rfl, trivial⟩
def aw28D : CT cfz := .run 37 [] <| .use aw27 <| .run 1 [(.ck 0)] <| .run 23 [] <|  .fin
theorem aw28k : crun cfz 161 aw28D [] (ent cfz 161 qa180) = some (qa369, [.eqA qa285 qa285]) := by kernel_rfl
theorem aw28 : PureCalls cfz.P cfz.glob 161 qa180 qa369 := closed_ok knil (by kernel_rfl) aw28k ⟨rfl, trivial⟩
def aw29D : CT cfz := .run 19 [] <| .use aw28 <| .run 1 [(.ck 0)] <| .use aw9 <| .run 1 [(.ck 1)] <| .run 3 [] <|  .fin
theorem aw29k : crun cfz 108 aw29D [] (ent cfz 108 qa23) = some ((.d (.v (.int .i64 0))), [.eqA qa180 qa180, .eqA qa361 qa361]) := by kernel_rfl
theorem aw29 : PureCalls cfz.P cfz.glob 108 qa23 (.d (.v (.int .i64 0))) := closed_ok knil (by kernel_rfl) aw29k ⟨rfl, rfl, trivial⟩
def aw30D : CT cfz := .run 40 [] <| .use aw19 <| .use aw20 <| .use aw29 <| .use aw6 <| .run 1 [.none, (.ck 0), .none, (.br true), (.br true), .none, (.br true), (.br true), .none, (.br true), (.br true), (.br true), .none, (.br true), (.br true), .none, (.br true), .none, (.ck 1), .none, .none, (.ck 2), (.ck 3)] <| .run 1 [] <|  .fin
theorem aw30k : crun cfz 111 aw30D [] (ent cfz 111 qa42) = some ((.d (.v (.int .i64 0))), [.eqA qa255 qa255, .eqA qa325 qa325, .eqA qa23 qa23, .eqA qa254 qa254]) := by kernel_rfl
theorem aw30 : PureCalls cfz.P cfz.glob 111 qa42 (.d (.v (.int .i64 0))) := closed_ok knil (by kernel_rfl) aw30k ⟨rfl, rfl, rfl, rfl, trivial⟩
def aw31D : CT cfz := .run 91 [] <|  .fin
theorem aw31k : crun cfz 110 aw31D [] (ent cfz 110 qa364) = some ((.d (.v (.bool true))), []) := by kernel_rfl
theorem aw31 : PureCalls cfz.P cfz.glob 110 qa364 (.d (.v (.bool true))) := closed_ok knil (by kernel_rfl) aw31k trivial
def aw32D : CT cfz := .run 14 [] <| .use aw1 <| .run 1 [(.ck 0)] <| .run 3 [] <|  .fin
theorem aw32k : crun cfz 106 aw32D [] (ent cfz 106 qa256) = some ((.d (.v (.int .i64 0))), [.eqA qa335 qa335]) := by kernel_rfl
theorem aw32 : PureCalls cfz.P cfz.glob 106 qa256 (.d (.v (.int .i64 0))) := closed_ok knil (by kernel_rfl) aw32k ⟨rfl, trivial⟩
def aw33D : CT cfz := .run 14 [] <| .use aw1 <| .run 1 [(.ck 0)] <| .run 3 [] <|  .fin
theorem aw33k : crun cfz 106 aw33D [] (ent cfz 106 qa225) = some ((.d (.v (.int .i64 0))), [.eqA qa335 qa335]) := by kernel_rfl
theorem aw33 : PureCalls cfz.P cfz.glob 106 qa225 (.d (.v (.int .i64 0))) := closed_ok knil (by kernel_rfl) aw33k ⟨rfl, trivial⟩
def aw34D : CT cfz := .run 7 [] <| .use aw4 <| .use aw33 <| .use aw5 <| .use aw6 <| .run 1 [.none, (.ck 0), .none, (.ck 1), .none, (.ck 2), (.ck 3)] <| .run 1 [] <|  .fin
theorem aw34k : crun cfz 162 aw34D [] (ent cfz 162 qa278) = some ((.d (.v (.int .i64 0))), [.eqA qa239 qa239, .eqA qa225 qa225, .eqA qa336 qa336, .eqA qa254 qa254]) := by kernel_rfl
theorem aw34 : PureCalls cfz.P cfz.glob 162 qa278 (.d (.v (.int .i64 0))) := closed_ok knil (by kernel_rfl) aw34k ⟨rfl, rfl, rfl, rfl, trivial⟩
def aw35D : CT cfz := .run 37 [] <| .use aw34 <| .run 1 [(.ck 0)] <| .run 23 [] <|  .fin
theorem aw35k : crun cfz 161 aw35D [] (ent cfz 161 qa176) = some (qa369, [.eqA qa278 qa278]) := by kernel_rfl
theorem aw35 : PureCalls cfz.P cfz.glob 161 qa176 qa369 := closed_ok knil (by kernel_rfl) aw35k ⟨rfl, trivial⟩
def aw36D : CT cfz := .run 19 [] <| .use aw35 <| .run 1 [(.ck 0)] <| .use aw9 <| .run 1 [(.ck 1)] <| .run 3 [] <|  .fin
theorem aw36k : crun cfz 108 aw36D [] (ent cfz 108 qa18) = some ((.d (.v (.int .i64 0))), [.eqA qa176 qa176, .eqA qa361 qa361]) := by kernel_rfl
theorem aw36 : PureCalls cfz.P cfz.glob 108 qa18 (.d (.v (.int .i64 0))) := closed_ok knil (by kernel_rfl) aw36k ⟨rfl, rfl, trivial⟩
def aw37D : CT cfz := .run 40 [] <| .use aw32 <| .use aw20 <| .use aw36 <| .use aw6 <| .run 1 [.none, (.ck 0), .none, (.br false), (.br false), (.br false), (.br false), (.br false), (.br false), (.br false), (.br false), (.br false), (.br false), .none, (.ck 1), .none, .none, (.ck 2), (.ck 3)] <| .run 1 [] <|  .fin
theorem aw37k : crun cfz 111 aw37D [] (ent cfz 111 qa43) = some ((.d (.v (.int .i64 0))), [.eqA qa256 qa256, .eqA qa325 qa325, .eqA qa18 qa18, .eqA qa254 qa254]) := by kernel_rfl
theorem aw37 : PureCalls cfz.P cfz.glob 111 qa43 (.d (.v (.int .i64 0))) := closed_ok knil (by kernel_rfl) aw37k ⟨rfl, rfl, rfl, rfl, trivial⟩
def aw38D : CT cfz := .run 19 [] <|  .fin
theorem aw38k : crun cfz 112 aw38D [] (ent cfz 112 qa41) = some ((.d (.v (.bool true))), []) := by kernel_rfl
theorem aw38 : PureCalls cfz.P cfz.glob 112 qa41 (.d (.v (.bool true))) := closed_ok knil (by kernel_rfl) aw38k trivial
def aw39D : CT cfz := .run 16 [] <|  .fin
theorem aw39k : crun cfz 109 aw39D [] (ent cfz 109 qa326) = some ((.d (.v (.int .i64 0))), []) := by kernel_rfl
theorem aw39 : PureCalls cfz.P cfz.glob 109 qa326 (.d (.v (.int .i64 0))) := closed_ok knil (by kernel_rfl) aw39k trivial
def aw40D : CT cfz := .run 43 [] <|  .fin
theorem aw40k : crun cfz 186 aw40D [] (ent cfz 186 qa116) = some ((.d (.v (.int .i64 0))), []) := by kernel_rfl
theorem aw40 : PureCalls cfz.P cfz.glob 186 qa116 (.d (.v (.int .i64 0))) := closed_ok knil (by kernel_rfl) aw40k trivial
def aw41D : CT cfz := .run 8 [] <| .use aw40 <| .run 1 [(.ck 0)] <| .run 4 [] <|  .fin
theorem aw41k : crun cfz 163 aw41D [] (ent cfz 163 qa116) = some ((.d (.v (.bool true))), [.eqA qa116 qa116]) := by kernel_rfl
theorem aw41 : PureCalls cfz.P cfz.glob 163 qa116 (.d (.v (.bool true))) := closed_ok knil (by kernel_rfl) aw41k ⟨rfl, trivial⟩
def aw42D : CT cfz := .run 16 [] <|  .fin
theorem aw42k : crun cfz 109 aw42D [] (ent cfz 109 qa327) = some ((.d (.v (.int .i64 0))), []) := by kernel_rfl
theorem aw42 : PureCalls cfz.P cfz.glob 109 qa327 (.d (.v (.int .i64 0))) := closed_ok knil (by kernel_rfl) aw42k trivial
def aw43D : CT cfz := .run 8 [] <| .use aw41 <| .run 1 [(.ck 0)] <| .run 1 [] <| .use aw42 <| .run 1 [(.ck 1)] <| .run 3 [] <|  .fin
theorem aw43k : crun cfz 113 aw43D [] (ent cfz 113 qa355) = some ((.d (.v (.int .i64 0))), [.eqA qa116 qa116, .eqA qa327 qa327]) := by kernel_rfl
theorem aw43 : PureCalls cfz.P cfz.glob 113 qa355 (.d (.v (.int .i64 0))) := closed_ok knil (by kernel_rfl) aw43k ⟨rfl, rfl, trivial⟩
def aw44D : CT cfz := .run 7 [] <| .use aw4 <| .use aw26 <| .use aw5 <| .use aw6 <| .run 1 [.none, (.ck 0), .none, (.ck 1), .none, (.ck 2), (.ck 3)] <| .run 1 [] <|  .fin
theorem aw44k : crun cfz 162 aw44D [] (ent cfz 162 qa286) = some ((.d (.v (.int .i64 0))), [.eqA qa239 qa239, .eqA qa240 qa240, .eqA qa336 qa336, .eqA qa254 qa254]) := by kernel_rfl
theorem aw44 : PureCalls cfz.P cfz.glob 162 qa286 (.d (.v (.int .i64 0))) := closed_ok knil (by kernel_rfl) aw44k ⟨rfl, rfl, rfl, rfl, trivial⟩
def aw45D : CT cfz := .run 37 [] <| .use aw44 <| .run 1 [(.ck 0)] <| .run 23 [] <|  .fin
theorem aw45k : crun cfz 161 aw45D [] (ent cfz 161 qa181) = some (qa369, [.eqA qa286 qa286]) := by kernel_rfl
theorem aw45 : PureCalls cfz.P cfz.glob 161 qa181 qa369 := closed_ok knil (by kernel_rfl) aw45k ⟨rfl, trivial⟩
def aw46D : CT cfz := .run 19 [] <| .use aw45 <| .run 1 [(.ck 0)] <| .use aw9 <| .run 1 [(.ck 1)] <| .run 3 [] <|  .fin
theorem aw46k : crun cfz 108 aw46D [] (ent cfz 108 qa24) = some ((.d (.v (.int .i64 0))), [.eqA qa181 qa181, .eqA qa361 qa361]) := by kernel_rfl
theorem aw46 : PureCalls cfz.P cfz.glob 108 qa24 (.d (.v (.int .i64 0))) := closed_ok knil (by kernel_rfl) aw46k ⟨rfl, rfl, trivial⟩
def aw47D : CT cfz := .run 10 [] <| .use aw2 <| .run 1 [(.ck 0)] <| .run 12 [] <| .use aw10 <| .use aw11 <| .use aw12 <| .use aw6 <| .run 1 [.none, .none, (.ck 1), .none, (.ck 2), .none, (.ck 3), (.ck 4)] <| .run 43 [] <| .use aw13 <| .use aw14 <| .use aw15 <| .use aw17 <| .run 1 [.none, (.ck 5), (.ck 6), .none, .none, (.ck 7), .none, (.ck 8), (.ck 4)] <| .run 40 [] <| .use aw18 <| .use aw24 <| .run 1 [.none, (.ck 9), (.ck 6), .none, .none, (.ck 7), .none, (.ck 10), (.ck 4)] <| .run 40 [] <| .use aw25 <| .use aw30 <| .run 1 [.none, (.ck 11), (.ck 6), .none, .none, (.ck 7), .none, (.ck 12), (.ck 4)] <| .run 40 [] <| .use aw31 <| .use aw37 <| .run 1 [.none, (.ck 13), (.ck 6), .none, .none, (.ck 7), .none, (.ck 14), (.ck 4)] <| .run 64 [] <| .use aw38 <| .use aw39 <| .use aw43 <| .use aw46 <| .run 1 [.none, .none, (.ck 15), (.ck 16), .none, (.ck 17), .none, .none, (.ck 18), (.ck 4)] <| .run 25 [] <|  .fin
theorem aw47k : crun cfz 23 aw47D [] (ent cfz 23 qa56) = some ((.d (.v (.int .i64 0))), [.eqA qa253 qa253, .eqA qa21 qa21, .eqA qa323 qa323, .eqA qa337 qa337, .eqA qa254 qa254, .eqA qa360 qa360, .eqA qa338 qa338, .eqA qa339 qa339, .eqA qa40 qa40, .eqA qa254 qa254, .eqA qa362 qa362, .eqA qa338 qa338, .eqA qa339 qa339, .eqA qa41 qa41, .eqA qa254 qa254, .eqA qa363 qa363, .eqA qa338 qa338, .eqA qa339 qa339, .eqA qa42 qa42, .eqA qa254 qa254, .eqA qa364 qa364, .eqA qa338 qa338, .eqA qa339 qa339, .eqA qa43 qa43, .eqA qa254 qa254, .eqA qa41 qa41, .eqA qa326 qa326, .eqA qa355 qa355, .eqA qa24 qa24, .eqA qa254 qa254]) := by kernel_rfl
theorem aw47 : PureCalls cfz.P cfz.glob 23 qa56 (.d (.v (.int .i64 0))) := closed_ok knil (by kernel_rfl) aw47k ⟨rfl, rfl, rfl, rfl, rfl, rfl, rfl, rfl, rfl, rfl, rfl, rfl, rfl, rfl, rfl, rfl, rfl, rfl, rfl, rfl, rfl, rfl, rfl, rfl, rfl, rfl, rfl, rfl, rfl, rfl, trivial⟩
def aw48D : CT cfz := .run 19 [] <|  .fin
theorem aw48k : crun cfz 112 aw48D [] (ent cfz 112 qa42) = some ((.d (.v (.bool true))), []) := by kernel_rfl
theorem aw48 : PureCalls cfz.P cfz.glob 112 qa42 (.d (.v (.bool true))) := closed_ok knil (by kernel_rfl) aw48k trivial
def aw49D : CT cfz := .run 8 [] <| .use aw48 <| .run 1 [(.ck 0)] <| .run 4 [] <|  .fin
theorem aw49k : crun cfz 153 aw49D [] (ent cfz 153 qa49) = some ((.d (.v (.bool false))), [.eqA qa42 qa42]) := by kernel_rfl
theorem aw49 : PureCalls cfz.P cfz.glob 153 qa49 (.d (.v (.bool false))) := closed_ok knil (by kernel_rfl) aw49k ⟨rfl, trivial⟩
def aw50D : CT cfz := .run 19 [] <|  .fin
theorem aw50k : crun cfz 112 aw50D [] (ent cfz 112 qa43) = some ((.d (.v (.bool true))), []) := by kernel_rfl
theorem aw50 : PureCalls cfz.P cfz.glob 112 qa43 (.d (.v (.bool true))) := closed_ok knil (by kernel_rfl) aw50k trivial
def aw51D : CT cfz := .run 8 [] <| .use aw50 <| .run 1 [(.ck 0)] <| .run 4 [] <|  .fin
theorem aw51k : crun cfz 153 aw51D [] (ent cfz 153 qa50) = some ((.d (.v (.bool false))), [.eqA qa43 qa43]) := by kernel_rfl
theorem aw51 : PureCalls cfz.P cfz.glob 153 qa50 (.d (.v (.bool false))) := closed_ok knil (by kernel_rfl) aw51k ⟨rfl, trivial⟩
def aw52D : CT cfz := .run 34 [] <| .use aw49 <| .run 1 [(.ck 0)] <| .run 30 [] <| .use aw51 <| .run 1 [(.ck 1)] <| .run 21 [] <|  .fin
theorem aw52k : crun cfz 155 aw52D [] (ent cfz 155 qa19) = some ((.d (.v (.int .i64 (-1)))), [.eqA qa49 qa49, .eqA qa50 qa50]) := by kernel_rfl
theorem aw52 : PureCalls cfz.P cfz.glob 155 qa19 (.d (.v (.int .i64 (-1)))) := closed_ok knil (by kernel_rfl) aw52k ⟨rfl, rfl, trivial⟩
def aw53D : CT cfz := .run 8 [] <| .use aw52 <| .run 1 [(.ck 0)] <| .run 4 [] <|  .fin
theorem aw53k : crun cfz 152 aw53D [] (ent cfz 152 qa19) = some ((.d (.v (.bool false))), [.eqA qa19 qa19]) := by kernel_rfl
theorem aw53 : PureCalls cfz.P cfz.glob 152 qa19 (.d (.v (.bool false))) := closed_ok knil (by kernel_rfl) aw53k ⟨rfl, trivial⟩
def aw54D : CT cfz := .run 81 [] <|  .fin
theorem aw54k : crun cfz 107 aw54D [] (ent cfz 107 qa310) = some ((.d (.v (.int .i64 0))), []) := by kernel_rfl
theorem aw54 : PureCalls cfz.P cfz.glob 107 qa310 (.d (.v (.int .i64 0))) := closed_ok knil (by kernel_rfl) aw54k trivial
def aw55D : CT cfz := .run 8 [] <| .use aw47 <| .run 1 [(.ck 0)] <| .run 2 [] <| .use aw53 <| .run 1 [(.ck 1)] <| .use aw39 <| .run 1 [(.ck 2)] <| .run 1 [] <| .use aw54 <| .run 1 [(.ck 3)] <| .run 3 [] <|  .fin
theorem aw55k : crun cfz 101 aw55D [] (ent cfz 101 qa25) = some ((.d (.v (.int .i64 0))), [.eqA qa56 qa56, .eqA qa19 qa19, .eqA qa326 qa326, .eqA qa310 qa310]) := by kernel_rfl
theorem aw55 : PureCalls cfz.P cfz.glob 101 qa25 (.d (.v (.int .i64 0))) := closed_ok knil (by kernel_rfl) aw55k ⟨rfl, rfl, rfl, rfl, trivial⟩
def aw56D : CT cfz := .run 84 [] <|  .fin
theorem aw56k : crun cfz 154 aw56D [] (ent cfz 154 qa42) = some (qa266, []) := by kernel_rfl
theorem aw56 : PureCalls cfz.P cfz.glob 154 qa42 qa266 := closed_ok knil (by kernel_rfl) aw56k trivial
def aw57D : CT cfz := .run 56 [] <|  .fin
theorem aw57k : crun cfz 154 aw57D [] (ent cfz 154 qa43) = some (qa319, []) := by kernel_rfl
theorem aw57 : PureCalls cfz.P cfz.glob 154 qa43 qa319 := closed_ok knil (by kernel_rfl) aw57k trivial
def aw58D : CT cfz := .run 87 [] <|  .fin
theorem aw58k : crun cfz 158 aw58D [] (ent cfz 158 qa233) = some ((.d (.v (.int .i64 (-1)))), []) := by kernel_rfl
theorem aw58 : PureCalls cfz.P cfz.glob 158 qa233 (.d (.v (.int .i64 (-1)))) := closed_ok knil (by kernel_rfl) aw58k trivial
def aw59D : CT cfz := .run 8 [] <| .use aw58 <| .run 1 [(.ck 0)] <| .run 4 [] <|  .fin
theorem aw59k : crun cfz 157 aw59D [] (ent cfz 157 qa233) = some ((.d (.v (.bool false))), [.eqA qa233 qa233]) := by kernel_rfl
theorem aw59 : PureCalls cfz.P cfz.glob 157 qa233 (.d (.v (.bool false))) := closed_ok knil (by kernel_rfl) aw59k ⟨rfl, trivial⟩
def aw60D : CT cfz := .run 8 [] <| .use aw59 <| .run 1 [(.ck 0)] <| .run 3 [] <|  .fin
theorem aw60k : crun cfz 156 aw60D [] (ent cfz 156 qa213) = some ((.d (.v (.bool false))), [.eqA qa233 qa233]) := by kernel_rfl
theorem aw60 : PureCalls cfz.P cfz.glob 156 qa213 (.d (.v (.bool false))) := closed_ok knil (by kernel_rfl) aw60k ⟨rfl, trivial⟩
def aw61D : CT cfz := .run 87 [] <|  .fin
theorem aw61k : crun cfz 158 aw61D [] (ent cfz 158 qa234) = some ((.d (.v (.int .i64 (-1)))), []) := by kernel_rfl
theorem aw61 : PureCalls cfz.P cfz.glob 158 qa234 (.d (.v (.int .i64 (-1)))) := closed_ok knil (by kernel_rfl) aw61k trivial
def aw62D : CT cfz := .run 8 [] <| .use aw61 <| .run 1 [(.ck 0)] <| .run 4 [] <|  .fin
theorem aw62k : crun cfz 157 aw62D [] (ent cfz 157 qa234) = some ((.d (.v (.bool false))), [.eqA qa234 qa234]) := by kernel_rfl
theorem aw62 : PureCalls cfz.P cfz.glob 157 qa234 (.d (.v (.bool false))) := closed_ok knil (by kernel_rfl) aw62k ⟨rfl, trivial⟩
def aw63D : CT cfz := .run 8 [] <| .use aw62 <| .run 1 [(.ck 0)] <| .run 3 [] <|  .fin
theorem aw63k : crun cfz 156 aw63D [] (ent cfz 156 qa214) = some ((.d (.v (.bool false))), [.eqA qa234 qa234]) := by kernel_rfl
theorem aw63 : PureCalls cfz.P cfz.glob 156 qa214 (.d (.v (.bool false))) := closed_ok knil (by kernel_rfl) aw63k ⟨rfl, trivial⟩
def aw64D : CT cfz := .run 74 [] <|  .fin
theorem aw64k : crun cfz 158 aw64D [] (ent cfz 158 qa235) = some ((.d (.v (.int .i64 1))), []) := by kernel_rfl
theorem aw64 : PureCalls cfz.P cfz.glob 158 qa235 (.d (.v (.int .i64 1))) := closed_ok knil (by kernel_rfl) aw64k trivial
def aw65D : CT cfz := .run 8 [] <| .use aw64 <| .run 1 [(.ck 0)] <| .run 4 [] <|  .fin
theorem aw65k : crun cfz 157 aw65D [] (ent cfz 157 qa235) = some ((.d (.v (.bool true))), [.eqA qa235 qa235]) := by kernel_rfl
theorem aw65 : PureCalls cfz.P cfz.glob 157 qa235 (.d (.v (.bool true))) := closed_ok knil (by kernel_rfl) aw65k ⟨rfl, trivial⟩
def aw66D : CT cfz := .run 8 [] <| .use aw65 <| .run 1 [(.ck 0)] <| .run 3 [] <|  .fin
theorem aw66k : crun cfz 156 aw66D [] (ent cfz 156 qa215) = some ((.d (.v (.bool true))), [.eqA qa235 qa235]) := by kernel_rfl
theorem aw66 : PureCalls cfz.P cfz.glob 156 qa215 (.d (.v (.bool true))) := closed_ok knil (by kernel_rfl) aw66k ⟨rfl, trivial⟩
def aw67D : CT cfz := .run 34 [] <| .use aw60 <| .run 1 [(.ck 0)] <| .run 30 [] <| .use aw63 <| .run 1 [(.ck 1)] <| .run 30 [] <| .use aw66 <| .run 1 [(.ck 2)] <| .run 8 [] <|  .fin
theorem aw67k : crun cfz 155 aw67D [] (ent cfz 155 qa125) = some ((.d (.v (.int .i64 2))), [.eqA qa213 qa213, .eqA qa214 qa214, .eqA qa215 qa215]) := by kernel_rfl
theorem aw67 : PureCalls cfz.P cfz.glob 155 qa125 (.d (.v (.int .i64 2))) := closed_ok knil (by kernel_rfl) aw67k ⟨rfl, rfl, rfl, trivial⟩
def aw68D : CT cfz := .run 20 [] <|  .fin
theorem aw68k : crun cfz 159 aw68D [] (ent cfz 159 qa365) = some ((.tup []), []) := by kernel_rfl
theorem aw68 : PureCalls cfz.P cfz.glob 159 qa365 (.tup []) := closed_ok knil (by kernel_rfl) aw68k trivial
def aw69D : CT cfz := .run 7 [] <| .use aw56 <| .use aw57 <| .run 1 [.none, (.ck 0), .none, (.ck 1), .none] <| .run 4 [] <| .use aw67 <| .run 1 [(.ck 2)] <| .run 8 [] <| .run 1 [.enter] <| .run 25 [] <| .use aw64 <| .run 1 [.none, .none, .none, (.ck 3), .enter] <| .run 25 [] <| .use aw68 <| .run 1 [(.ck 4)] <| .run 9 [] <|  .fin
theorem aw69k : crun cfz 102 aw69D [] (ent cfz 102 qa29) = some (qa187, [.eqA qa42 qa42, .eqA qa43 qa43, .eqA qa125 qa125, .eqA qa235 qa235, .eqA qa365 qa365]) := by kernel_rfl
theorem aw69 : PureCalls cfz.P cfz.glob 102 qa29 qa187 := closed_ok knil (by kernel_rfl) aw69k ⟨rfl, rfl, rfl, rfl, rfl, trivial⟩
def aw70D : CT cfz := .run 13 [] <| .use aw55 <| .run 1 [(.ck 0)] <| .run 14 [] <| .use aw69 <| .run 1 [(.ck 1)] <| .run 4 [] <|  .fin
theorem aw70k : crun cfz 17 aw70D [] (ent cfz 17 qa29) = some (qa156, [.eqA qa25 qa25, .eqA qa29 qa29]) := by kernel_rfl
theorem aw70 : PureCalls cfz.P cfz.glob 17 qa29 qa156 := closed_ok knil (by kernel_rfl) aw70k ⟨rfl, rfl, trivial⟩
def aw71D : CT cfz := .run 19 [] <|  .fin
theorem aw71k : crun cfz 112 aw71D [] (ent cfz 112 qa40) = some ((.d (.v (.bool true))), []) := by kernel_rfl
theorem aw71 : PureCalls cfz.P cfz.glob 112 qa40 (.d (.v (.bool true))) := closed_ok knil (by kernel_rfl) aw71k trivial
def aw72D : CT cfz := .run 8 [] <| .use aw71 <| .run 1 [(.ck 0)] <| .run 4 [] <|  .fin
theorem aw72k : crun cfz 153 aw72D [] (ent cfz 153 qa51) = some ((.d (.v (.bool false))), [.eqA qa40 qa40]) := by kernel_rfl
theorem aw72 : PureCalls cfz.P cfz.glob 153 qa51 (.d (.v (.bool false))) := closed_ok knil (by kernel_rfl) aw72k ⟨rfl, trivial⟩
def aw73D : CT cfz := .run 8 [] <| .use aw38 <| .run 1 [(.ck 0)] <| .run 4 [] <|  .fin
theorem aw73k : crun cfz 153 aw73D [] (ent cfz 153 qa52) = some ((.d (.v (.bool false))), [.eqA qa41 qa41]) := by kernel_rfl
theorem aw73 : PureCalls cfz.P cfz.glob 153 qa52 (.d (.v (.bool false))) := closed_ok knil (by kernel_rfl) aw73k ⟨rfl, trivial⟩
def aw74D : CT cfz := .run 34 [] <| .use aw72 <| .run 1 [(.ck 0)] <| .run 30 [] <| .use aw73 <| .run 1 [(.ck 1)] <| .run 21 [] <|  .fin
theorem aw74k : crun cfz 155 aw74D [] (ent cfz 155 qa20) = some ((.d (.v (.int .i64 (-1)))), [.eqA qa51 qa51, .eqA qa52 qa52]) := by kernel_rfl
theorem aw74 : PureCalls cfz.P cfz.glob 155 qa20 (.d (.v (.int .i64 (-1)))) := closed_ok knil (by kernel_rfl) aw74k ⟨rfl, rfl, trivial⟩
def aw75D : CT cfz := .run 8 [] <| .use aw74 <| .run 1 [(.ck 0)] <| .run 4 [] <|  .fin
theorem aw75k : crun cfz 152 aw75D [] (ent cfz 152 qa20) = some ((.d (.v (.bool false))), [.eqA qa20 qa20]) := by kernel_rfl
theorem aw75 : PureCalls cfz.P cfz.glob 152 qa20 (.d (.v (.bool false))) := closed_ok knil (by kernel_rfl) aw75k ⟨rfl, trivial⟩
def aw76D : CT cfz := .run 8 [] <| .use aw47 <| .run 1 [(.ck 0)] <| .run 2 [] <| .use aw75 <| .run 1 [(.ck 1)] <| .use aw39 <| .run 1 [(.ck 2)] <| .run 1 [] <| .use aw54 <| .run 1 [(.ck 3)] <| .run 3 [] <|  .fin
theorem aw76k : crun cfz 101 aw76D [] (ent cfz 101 qa26) = some ((.d (.v (.int .i64 0))), [.eqA qa56 qa56, .eqA qa20 qa20, .eqA qa326 qa326, .eqA qa310 qa310]) := by kernel_rfl
theorem aw76 : PureCalls cfz.P cfz.glob 101 qa26 (.d (.v (.int .i64 0))) := closed_ok knil (by kernel_rfl) aw76k ⟨rfl, rfl, rfl, rfl, trivial⟩
def aw77D : CT cfz := .run 15 [] <| .use aw39 <| .run 1 [(.ck 0)] <| .run 3 [] <|  .fin
theorem aw77k : crun cfz 114 aw77D [] (ent cfz 114 qa40) = some ((.d (.v (.int .i64 0))), [.eqA qa326 qa326]) := by kernel_rfl
theorem aw77 : PureCalls cfz.P cfz.glob 114 qa40 (.d (.v (.int .i64 0))) := closed_ok knil (by kernel_rfl) aw77k ⟨rfl, trivial⟩
def aw78D : CT cfz := .run 14 [] <|  .fin
theorem aw78k : crun cfz 117 aw78D [] (ent cfz 117 qa2) = some ((.fn (.func 168) [] [(.ip qa60), (.ip [(.v (.int .i64 0))]), (.ip [(.v (.int .i64 1))]), (.ip [(.v (.int .i64 0))])]), []) := by kernel_rfl
theorem aw78 : PureCalls cfz.P cfz.glob 117 qa2 (.fn (.func 168) [] [(.ip qa60), (.ip [(.v (.int .i64 0))]), (.ip [(.v (.int .i64 1))]), (.ip [(.v (.int .i64 0))])]) := closed_ok knil (by kernel_rfl) aw78k trivial
def aw79D : CT cfz := .run 28 [] <|  .fin
theorem aw79k : crun cfz 154 aw79D [] (ent cfz 154 qa40) = some (qa369, []) := by kernel_rfl
theorem aw79 : PureCalls cfz.P cfz.glob 154 qa40 qa369 := closed_ok knil (by kernel_rfl) aw79k trivial
def aw80D : CT cfz := .run 56 [] <|  .fin
theorem aw80k : crun cfz 154 aw80D [] (ent cfz 154 qa41) = some (qa321, []) := by kernel_rfl
theorem aw80 : PureCalls cfz.P cfz.glob 154 qa41 qa321 := closed_ok knil (by kernel_rfl) aw80k trivial
def aw81D : CT cfz := .run 74 [] <|  .fin
theorem aw81k : crun cfz 158 aw81D [] (ent cfz 158 qa236) = some ((.d (.v (.int .i64 1))), []) := by kernel_rfl
theorem aw81 : PureCalls cfz.P cfz.glob 158 qa236 (.d (.v (.int .i64 1))) := closed_ok knil (by kernel_rfl) aw81k trivial
def aw82D : CT cfz := .run 8 [] <| .use aw81 <| .run 1 [(.ck 0)] <| .run 4 [] <|  .fin
theorem aw82k : crun cfz 157 aw82D [] (ent cfz 157 qa236) = some ((.d (.v (.bool true))), [.eqA qa236 qa236]) := by kernel_rfl
theorem aw82 : PureCalls cfz.P cfz.glob 157 qa236 (.d (.v (.bool true))) := closed_ok knil (by kernel_rfl) aw82k ⟨rfl, trivial⟩
def aw83D : CT cfz := .run 8 [] <| .use aw82 <| .run 1 [(.ck 0)] <| .run 3 [] <|  .fin
theorem aw83k : crun cfz 156 aw83D [] (ent cfz 156 qa216) = some ((.d (.v (.bool true))), [.eqA qa236 qa236]) := by kernel_rfl
theorem aw83 : PureCalls cfz.P cfz.glob 156 qa216 (.d (.v (.bool true))) := closed_ok knil (by kernel_rfl) aw83k ⟨rfl, trivial⟩
def aw84D : CT cfz := .run 34 [] <| .use aw83 <| .run 1 [(.ck 0)] <| .run 8 [] <|  .fin
theorem aw84k : crun cfz 155 aw84D [] (ent cfz 155 qa163) = some ((.d (.v (.int .i64 0))), [.eqA qa216 qa216]) := by kernel_rfl
theorem aw84 : PureCalls cfz.P cfz.glob 155 qa163 (.d (.v (.int .i64 0))) := closed_ok knil (by kernel_rfl) aw84k ⟨rfl, trivial⟩
def aw85D : CT cfz := .run 20 [] <|  .fin
theorem aw85k : crun cfz 159 aw85D [] (ent cfz 159 qa366) = some ((.tup []), []) := by kernel_rfl
theorem aw85 : PureCalls cfz.P cfz.glob 159 qa366 (.tup []) := closed_ok knil (by kernel_rfl) aw85k trivial
def aw86D : CT cfz := .run 7 [] <| .use aw79 <| .use aw80 <| .run 1 [.none, (.ck 0), .none, (.ck 1), .none] <| .run 4 [] <| .use aw84 <| .run 1 [(.ck 2)] <| .run 8 [] <| .run 1 [.enter] <| .run 25 [] <| .use aw81 <| .run 1 [.none, .none, .none, (.ck 3), .enter] <| .run 25 [] <| .use aw85 <| .run 1 [(.ck 4)] <| .run 9 [] <|  .fin
theorem aw86k : crun cfz 102 aw86D [] (ent cfz 102 qa30) = some (qa320, [.eqA qa40 qa40, .eqA qa41 qa41, .eqA qa163 qa163, .eqA qa236 qa236, .eqA qa366 qa366]) := by kernel_rfl
theorem aw86 : PureCalls cfz.P cfz.glob 102 qa30 qa320 := closed_ok knil (by kernel_rfl) aw86k ⟨rfl, rfl, rfl, rfl, rfl, trivial⟩
def aw87D : CT cfz := .run 74 [] <|  .fin
theorem aw87k : crun cfz 158 aw87D [] (ent cfz 158 qa237) = some ((.d (.v (.int .i64 1))), []) := by kernel_rfl
theorem aw87 : PureCalls cfz.P cfz.glob 158 qa237 (.d (.v (.int .i64 1))) := closed_ok knil (by kernel_rfl) aw87k trivial
def aw88D : CT cfz := .run 7 [] <| .run 1 [.enter] <| .run 17 [] <| .use aw86 <| .run 1 [(.ck 0)] <| .run 97 [] <| .use aw87 <| .run 1 [(.ck 1)] <| .run 71 [] <|  .fin
theorem aw88k : crun cfz 116 aw88D [] (ent cfz 116 [(.fn (.func 168) [] [(.ip qa60), (.ip [(.v (.int .i64 0))]), (.ip [(.v (.int .i64 1))]), (.ip [(.v (.int .i64 0))])])]) = some (qa149, [.eqA qa30 qa30, .eqA qa237 qa237]) := by kernel_rfl
theorem aw88 : PureCalls cfz.P cfz.glob 116 [(.fn (.func 168) [] [(.ip qa60), (.ip [(.v (.int .i64 0))]), (.ip [(.v (.int .i64 1))]), (.ip [(.v (.int .i64 0))])])] qa149 := closed_ok knil (by kernel_rfl) aw88k ⟨rfl, rfl, trivial⟩
def aw89D : CT cfz := .run 12 [] <|  .fin
theorem aw89k : crun cfz 165 aw89D [] (ent cfz 165 qa204) = some ((.d (.v (.bool false))), []) := by kernel_rfl
theorem aw89 : PureCalls cfz.P cfz.glob 165 qa204 (.d (.v (.bool false))) := closed_ok knil (by kernel_rfl) aw89k trivial
def aw90D : CT cfz := .run 12 [] <|  .fin
theorem aw90k : crun cfz 165 aw90D [] (ent cfz 165 qa205) = some ((.d (.v (.bool false))), []) := by kernel_rfl
theorem aw90 : PureCalls cfz.P cfz.glob 165 qa205 (.d (.v (.bool false))) := closed_ok knil (by kernel_rfl) aw90k trivial
def aw91D : CT cfz := .run 34 [] <| .use aw89 <| .run 1 [(.ck 0)] <| .run 30 [] <| .use aw90 <| .run 1 [(.ck 1)] <| .run 21 [] <|  .fin
theorem aw91k : crun cfz 187 aw91D [] (ent cfz 187 qa113) = some ((.d (.v (.int .i64 (-1)))), [.eqA qa204 qa204, .eqA qa205 qa205]) := by kernel_rfl
theorem aw91 : PureCalls cfz.P cfz.glob 187 qa113 (.d (.v (.int .i64 (-1)))) := closed_ok knil (by kernel_rfl) aw91k ⟨rfl, rfl, trivial⟩
def aw92D : CT cfz := .run 8 [] <| .use aw91 <| .run 1 [(.ck 0)] <| .run 4 [] <|  .fin
theorem aw92k : crun cfz 164 aw92D [] (ent cfz 164 qa113) = some ((.d (.v (.bool false))), [.eqA qa113 qa113]) := by kernel_rfl
theorem aw92 : PureCalls cfz.P cfz.glob 164 qa113 (.d (.v (.bool false))) := closed_ok knil (by kernel_rfl) aw92k ⟨rfl, trivial⟩
def aw93D : CT cfz := .run 16 [] <|  .fin
theorem aw93k : crun cfz 109 aw93D [] (ent cfz 109 qa328) = some ((.d (.v (.int .i64 0))), []) := by kernel_rfl
theorem aw93 : PureCalls cfz.P cfz.glob 109 qa328 (.d (.v (.int .i64 0))) := closed_ok knil (by kernel_rfl) aw93k trivial
def aw94D : CT cfz := .run 16 [] <|  .fin
theorem aw94k : crun cfz 109 aw94D [] (ent cfz 109 qa341) = some ((.d (.v (.int .i64 0))), []) := by kernel_rfl
theorem aw94 : PureCalls cfz.P cfz.glob 109 qa341 (.d (.v (.int .i64 0))) := closed_ok knil (by kernel_rfl) aw94k trivial
def aw95D : CT cfz := .run 38 [] <|  .fin
theorem aw95k : crun cfz 166 aw95D [] (ent cfz 166 qa137) = some (qa288, []) := by kernel_rfl
theorem aw95 : PureCalls cfz.P cfz.glob 166 qa137 qa288 := closed_ok knil (by kernel_rfl) aw95k trivial
def aw96D : CT cfz := .run 38 [] <|  .fin
theorem aw96k : crun cfz 166 aw96D [] (ent cfz 166 qa138) = some (qa280, []) := by kernel_rfl
theorem aw96 : PureCalls cfz.P cfz.glob 166 qa138 qa280 := closed_ok knil (by kernel_rfl) aw96k trivial
def aw97D : CT cfz := .run 12 [] <| .use aw78 <| .run 1 [(.ck 0)] <| .use aw88 <| .run 1 [(.ck 1)] <| .run 6 [] <| .use aw92 <| .run 1 [(.ck 2)] <| .use aw93 <| .run 1 [(.ck 3)] <| .run 3 [] <| .use aw94 <| .run 1 [(.ck 4)] <| .run 1 [] <| .use aw54 <| .run 1 [(.ck 5)] <| .run 48 [] <| .use aw95 <| .run 1 [(.ck 6)] <| .run 28 [] <| .use aw96 <| .run 1 [(.ck 7)] <| .run 22 [] <|  .fin
theorem aw97k : crun cfz 115 aw97D [] (ent cfz 115 qa2) = some (qa185, [.eqA qa2 qa2, .eqA [(.fn (.func 168) [] [(.ip qa60), (.ip [(.v (.int .i64 0))]), (.ip [(.v (.int .i64 1))]), (.ip [(.v (.int .i64 0))])])] [(.fn (.func 168) [] [(.ip qa60), (.ip [(.v (.int .i64 0))]), (.ip [(.v (.int .i64 1))]), (.ip [(.v (.int .i64 0))])])], .eqA qa113 qa113, .eqA qa328 qa328, .eqA qa341 qa341, .eqA qa310 qa310, .eqA qa137 qa137, .eqA qa138 qa138]) := by kernel_rfl
theorem aw97 : PureCalls cfz.P cfz.glob 115 qa2 qa185 := closed_ok knil (by kernel_rfl) aw97k ⟨rfl, rfl, rfl, rfl, rfl, rfl, rfl, rfl, trivial⟩
def aw98D : CT cfz := .run 9 [] <| .use aw76 <| .use aw77 <| .use aw54 <| .run 1 [.none, (.ck 0), .none, (.ck 1), (.ck 2)] <| .run 13 [] <| .use aw97 <| .run 1 [(.ck 3)] <| .run 6 [] <|  .fin
theorem aw98k : crun cfz 25 aw98D [] (ent cfz 25 qa2) = some (qa185, [.eqA qa26 qa26, .eqA qa40 qa40, .eqA qa310 qa310, .eqA qa2 qa2]) := by kernel_rfl
theorem aw98 : PureCalls cfz.P cfz.glob 25 qa2 qa185 := closed_ok knil (by kernel_rfl) aw98k ⟨rfl, rfl, rfl, rfl, trivial⟩
def aw99D : CT cfz := .run 14 [] <|  .fin
theorem aw99k : crun cfz 117 aw99D [] (ent cfz 117 qa3) = some ((.fn (.func 168) [] [(.ip qa60), (.ip [(.v (.int .i64 2))]), (.ip [(.v (.int .i64 3))]), (.ip [(.v (.int .i64 0))])]), []) := by kernel_rfl
theorem aw99 : PureCalls cfz.P cfz.glob 117 qa3 (.fn (.func 168) [] [(.ip qa60), (.ip [(.v (.int .i64 2))]), (.ip [(.v (.int .i64 3))]), (.ip [(.v (.int .i64 0))])]) := closed_ok knil (by kernel_rfl) aw99k trivial
def aw100D : CT cfz := .run 74 [] <|  .fin
theorem aw100k : crun cfz 158 aw100D [] (ent cfz 158 qa158) = some ((.d (.v (.int .i64 1))), []) := by kernel_rfl
theorem aw100 : PureCalls cfz.P cfz.glob 158 qa158 (.d (.v (.int .i64 1))) := closed_ok knil (by kernel_rfl) aw100k trivial
def aw101D : CT cfz := .run 7 [] <| .run 1 [.enter] <| .run 17 [] <| .use aw69 <| .run 1 [(.ck 0)] <| .run 179 [] <| .use aw100 <| .run 1 [(.ck 1)] <| .run 63 [] <| .run 1 [.enter] <| .run 31 [] <|  .fin
theorem aw101k : crun cfz 116 aw101D [] (ent cfz 116 [(.fn (.func 168) [] [(.ip qa60), (.ip [(.v (.int .i64 2))]), (.ip [(.v (.int .i64 3))]), (.ip [(.v (.int .i64 0))])])]) = some (qa71, [.eqA qa29 qa29, .eqA qa158 qa158]) := by kernel_rfl
theorem aw101 : PureCalls cfz.P cfz.glob 116 [(.fn (.func 168) [] [(.ip qa60), (.ip [(.v (.int .i64 2))]), (.ip [(.v (.int .i64 3))]), (.ip [(.v (.int .i64 0))])])] qa71 := closed_ok knil (by kernel_rfl) aw101k ⟨rfl, rfl, trivial⟩
def aw102D : CT cfz := .run 12 [] <|  .fin
theorem aw102k : crun cfz 165 aw102D [] (ent cfz 165 qa206) = some ((.d (.v (.bool false))), []) := by kernel_rfl
theorem aw102 : PureCalls cfz.P cfz.glob 165 qa206 (.d (.v (.bool false))) := closed_ok knil (by kernel_rfl) aw102k trivial
def aw103D : CT cfz := .run 12 [] <|  .fin
theorem aw103k : crun cfz 165 aw103D [] (ent cfz 165 qa194) = some ((.d (.v (.bool false))), []) := by kernel_rfl
theorem aw103 : PureCalls cfz.P cfz.glob 165 qa194 (.d (.v (.bool false))) := closed_ok knil (by kernel_rfl) aw103k trivial
def aw104D : CT cfz := .run 12 [] <|  .fin
theorem aw104k : crun cfz 165 aw104D [] (ent cfz 165 qa207) = some ((.d (.v (.bool false))), []) := by kernel_rfl
theorem aw104 : PureCalls cfz.P cfz.glob 165 qa207 (.d (.v (.bool false))) := closed_ok knil (by kernel_rfl) aw104k trivial
def aw105D : CT cfz := .run 34 [] <| .use aw102 <| .run 1 [(.ck 0)] <| .run 30 [] <| .use aw89 <| .run 1 [(.ck 1)] <| .run 30 [] <| .use aw103 <| .run 1 [(.ck 2)] <| .run 30 [] <| .use aw90 <| .run 1 [(.ck 3)] <| .run 30 [] <| .use aw104 <| .run 1 [(.ck 4)] <| .run 21 [] <|  .fin
theorem aw105k : crun cfz 187 aw105D [] (ent cfz 187 qa65) = some ((.d (.v (.int .i64 (-1)))), [.eqA qa206 qa206, .eqA qa204 qa204, .eqA qa194 qa194, .eqA qa205 qa205, .eqA qa207 qa207]) := by kernel_rfl
theorem aw105 : PureCalls cfz.P cfz.glob 187 qa65 (.d (.v (.int .i64 (-1)))) := closed_ok knil (by kernel_rfl) aw105k ⟨rfl, rfl, rfl, rfl, rfl, trivial⟩
def aw106D : CT cfz := .run 8 [] <| .use aw105 <| .run 1 [(.ck 0)] <| .run 4 [] <|  .fin
theorem aw106k : crun cfz 164 aw106D [] (ent cfz 164 qa65) = some ((.d (.v (.bool false))), [.eqA qa65 qa65]) := by kernel_rfl
theorem aw106 : PureCalls cfz.P cfz.glob 164 qa65 (.d (.v (.bool false))) := closed_ok knil (by kernel_rfl) aw106k ⟨rfl, trivial⟩
def aw107D : CT cfz := .run 38 [] <|  .fin
theorem aw107k : crun cfz 166 aw107D [] (ent cfz 166 qa139) = some (qa289, []) := by kernel_rfl
theorem aw107 : PureCalls cfz.P cfz.glob 166 qa139 qa289 := closed_ok knil (by kernel_rfl) aw107k trivial
def aw108D : CT cfz := .run 38 [] <|  .fin
theorem aw108k : crun cfz 166 aw108D [] (ent cfz 166 qa140) = some (qa291, []) := by kernel_rfl
theorem aw108 : PureCalls cfz.P cfz.glob 166 qa140 qa291 := closed_ok knil (by kernel_rfl) aw108k trivial
def aw109D : CT cfz := .run 38 [] <|  .fin
theorem aw109k : crun cfz 166 aw109D [] (ent cfz 166 qa134) = some (qa292, []) := by kernel_rfl
theorem aw109 : PureCalls cfz.P cfz.glob 166 qa134 qa292 := closed_ok knil (by kernel_rfl) aw109k trivial
def aw110D : CT cfz := .run 38 [] <|  .fin
theorem aw110k : crun cfz 166 aw110D [] (ent cfz 166 qa141) = some (qa293, []) := by kernel_rfl
theorem aw110 : PureCalls cfz.P cfz.glob 166 qa141 qa293 := closed_ok knil (by kernel_rfl) aw110k trivial
def aw111D : CT cfz := .run 38 [] <|  .fin
theorem aw111k : crun cfz 166 aw111D [] (ent cfz 166 qa142) = some (qa281, []) := by kernel_rfl
theorem aw111 : PureCalls cfz.P cfz.glob 166 qa142 qa281 := closed_ok knil (by kernel_rfl) aw111k trivial
def aw112D : CT cfz := .run 12 [] <| .use aw99 <| .run 1 [(.ck 0)] <| .use aw101 <| .run 1 [(.ck 1)] <| .run 6 [] <| .use aw106 <| .run 1 [(.ck 2)] <| .use aw93 <| .run 1 [(.ck 3)] <| .run 3 [] <| .use aw94 <| .run 1 [(.ck 4)] <| .run 1 [] <| .use aw54 <| .run 1 [(.ck 5)] <| .run 48 [] <| .use aw107 <| .run 1 [(.ck 6)] <| .run 28 [] <| .use aw108 <| .run 1 [(.ck 7)] <| .run 28 [] <| .use aw109 <| .run 1 [(.ck 8)] <| .run 28 [] <| .use aw110 <| .run 1 [(.ck 9)] <| .run 28 [] <| .use aw111 <| .run 1 [(.ck 10)] <| .run 22 [] <|  .fin
theorem aw112k : crun cfz 115 aw112D [] (ent cfz 115 qa3) = some (qa186, [.eqA qa3 qa3, .eqA [(.fn (.func 168) [] [(.ip qa60), (.ip [(.v (.int .i64 2))]), (.ip [(.v (.int .i64 3))]), (.ip [(.v (.int .i64 0))])])] [(.fn (.func 168) [] [(.ip qa60), (.ip [(.v (.int .i64 2))]), (.ip [(.v (.int .i64 3))]), (.ip [(.v (.int .i64 0))])])], .eqA qa65 qa65, .eqA qa328 qa328, .eqA qa341 qa341, .eqA qa310 qa310, .eqA qa139 qa139, .eqA qa140 qa140, .eqA qa134 qa134, .eqA qa141 qa141, .eqA qa142 qa142]) := by kernel_rfl
theorem aw112 : PureCalls cfz.P cfz.glob 115 qa3 qa186 := closed_ok knil (by kernel_rfl) aw112k ⟨rfl, rfl, rfl, rfl, rfl, rfl, rfl, rfl, rfl, rfl, rfl, trivial⟩
def aw113D : CT cfz := .run 9 [] <| .use aw55 <| .use aw77 <| .use aw54 <| .run 1 [.none, (.ck 0), .none, (.ck 1), (.ck 2)] <| .run 13 [] <| .use aw112 <| .run 1 [(.ck 3)] <| .run 6 [] <|  .fin
theorem aw113k : crun cfz 25 aw113D [] (ent cfz 25 qa3) = some (qa186, [.eqA qa25 qa25, .eqA qa40 qa40, .eqA qa310 qa310, .eqA qa3 qa3]) := by kernel_rfl
theorem aw113 : PureCalls cfz.P cfz.glob 25 qa3 qa186 := closed_ok knil (by kernel_rfl) aw113k ⟨rfl, rfl, rfl, rfl, trivial⟩
def aw114D : CT cfz := .run 28 [] <|  .fin
theorem aw114k : crun cfz 98 aw114D [] (ent cfz 98 qa351) = some (qa55, []) := by kernel_rfl
theorem aw114 : PureCalls cfz.P cfz.glob 98 qa351 qa55 := closed_ok knil (by kernel_rfl) aw114k trivial
def aw115D : CT cfz := .run 19 [] <| .use aw8 <| .run 1 [(.ck 0)] <| .use aw9 <| .run 1 [(.ck 1)] <| .run 3 [] <|  .fin
theorem aw115k : crun cfz 108 aw115D [] (ent cfz 108 qa13) = some ((.d (.v (.int .i64 0))), [.eqA qa178 qa178, .eqA qa361 qa361]) := by kernel_rfl
theorem aw115 : PureCalls cfz.P cfz.glob 108 qa13 (.d (.v (.int .i64 0))) := closed_ok knil (by kernel_rfl) aw115k ⟨rfl, rfl, trivial⟩
def aw116D : CT cfz := .run 38 [] <| .use aw16 <| .run 1 [(.ck 0)] <| .run 3 [] <|  .fin
theorem aw116k : crun cfz 111 aw116D [] (ent cfz 111 qa36) = some ((.d (.v (.int .i64 0))), [.eqA qa324 qa324]) := by kernel_rfl
theorem aw116 : PureCalls cfz.P cfz.glob 111 qa36 (.d (.v (.int .i64 0))) := closed_ok knil (by kernel_rfl) aw116k ⟨rfl, trivial⟩
def aw117D : CT cfz := .run 19 [] <| .use aw22 <| .run 1 [(.ck 0)] <| .use aw9 <| .run 1 [(.ck 1)] <| .run 3 [] <|  .fin
theorem aw117k : crun cfz 108 aw117D [] (ent cfz 108 qa14) = some ((.d (.v (.int .i64 0))), [.eqA qa179 qa179, .eqA qa361 qa361]) := by kernel_rfl
theorem aw117 : PureCalls cfz.P cfz.glob 108 qa14 (.d (.v (.int .i64 0))) := closed_ok knil (by kernel_rfl) aw117k ⟨rfl, rfl, trivial⟩
def aw118D : CT cfz := .run 40 [] <| .use aw19 <| .use aw20 <| .use aw117 <| .use aw6 <| .run 1 [.none, (.ck 0), .none, (.br false), (.br false), (.br false), (.br false), (.br false), (.br false), (.br false), (.br false), (.br false), (.br false), .none, (.ck 1), .none, .none, (.ck 2), (.ck 3)] <| .run 1 [] <|  .fin
theorem aw118k : crun cfz 111 aw118D [] (ent cfz 111 qa37) = some ((.d (.v (.int .i64 0))), [.eqA qa255 qa255, .eqA qa325 qa325, .eqA qa14 qa14, .eqA qa254 qa254]) := by kernel_rfl
theorem aw118 : PureCalls cfz.P cfz.glob 111 qa37 (.d (.v (.int .i64 0))) := closed_ok knil (by kernel_rfl) aw118k ⟨rfl, rfl, rfl, rfl, trivial⟩
def aw119D : CT cfz := .run 19 [] <| .use aw28 <| .run 1 [(.ck 0)] <| .use aw9 <| .run 1 [(.ck 1)] <| .run 3 [] <|  .fin
theorem aw119k : crun cfz 108 aw119D [] (ent cfz 108 qa15) = some ((.d (.v (.int .i64 0))), [.eqA qa180 qa180, .eqA qa361 qa361]) := by kernel_rfl
theorem aw119 : PureCalls cfz.P cfz.glob 108 qa15 (.d (.v (.int .i64 0))) := closed_ok knil (by kernel_rfl) aw119k ⟨rfl, rfl, trivial⟩
def aw120D : CT cfz := .run 40 [] <| .use aw19 <| .use aw20 <| .use aw119 <| .use aw6 <| .run 1 [.none, (.ck 0), .none, (.br true), (.br true), .none, (.br true), (.br true), .none, (.br true), (.br true), (.br true), .none, (.br true), (.br true), .none, (.br true), .none, (.ck 1), .none, .none, (.ck 2), (.ck 3)] <| .run 1 [] <|  .fin
theorem aw120k : crun cfz 111 aw120D [] (ent cfz 111 qa38) = some ((.d (.v (.int .i64 0))), [.eqA qa255 qa255, .eqA qa325 qa325, .eqA qa15 qa15, .eqA qa254 qa254]) := by kernel_rfl
theorem aw120 : PureCalls cfz.P cfz.glob 111 qa38 (.d (.v (.int .i64 0))) := closed_ok knil (by kernel_rfl) aw120k ⟨rfl, rfl, rfl, rfl, trivial⟩
def aw121D : CT cfz := .run 19 [] <| .use aw35 <| .run 1 [(.ck 0)] <| .use aw9 <| .run 1 [(.ck 1)] <| .run 3 [] <|  .fin
theorem aw121k : crun cfz 108 aw121D [] (ent cfz 108 qa5) = some ((.d (.v (.int .i64 0))), [.eqA qa176 qa176, .eqA qa361 qa361]) := by kernel_rfl
theorem aw121 : PureCalls cfz.P cfz.glob 108 qa5 (.d (.v (.int .i64 0))) := closed_ok knil (by kernel_rfl) aw121k ⟨rfl, rfl, trivial⟩
def aw122D : CT cfz := .run 40 [] <| .use aw32 <| .use aw20 <| .use aw121 <| .use aw6 <| .run 1 [.none, (.ck 0), .none, (.br false), (.br false), (.br false), (.br false), (.br false), (.br false), (.br false), (.br false), (.br false), (.br false), .none, (.ck 1), .none, .none, (.ck 2), (.ck 3)] <| .run 1 [] <|  .fin
theorem aw122k : crun cfz 111 aw122D [] (ent cfz 111 qa39) = some ((.d (.v (.int .i64 0))), [.eqA qa256 qa256, .eqA qa325 qa325, .eqA qa5 qa5, .eqA qa254 qa254]) := by kernel_rfl
theorem aw122 : PureCalls cfz.P cfz.glob 111 qa39 (.d (.v (.int .i64 0))) := closed_ok knil (by kernel_rfl) aw122k ⟨rfl, rfl, rfl, rfl, trivial⟩
def aw123D : CT cfz := .run 19 [] <|  .fin
theorem aw123k : crun cfz 112 aw123D [] (ent cfz 112 qa37) = some ((.d (.v (.bool true))), []) := by kernel_rfl
theorem aw123 : PureCalls cfz.P cfz.glob 112 qa37 (.d (.v (.bool true))) := closed_ok knil (by kernel_rfl) aw123k trivial
def aw124D : CT cfz := .run 105 [] <|  .fin
theorem aw124k : crun cfz 186 aw124D [] (ent cfz 186 qa115) = some ((.d (.v (.int .i64 2))), []) := by kernel_rfl
theorem aw124 : PureCalls cfz.P cfz.glob 186 qa115 (.d (.v (.int .i64 2))) := closed_ok knil (by kernel_rfl) aw124k trivial
def aw125D : CT cfz := .run 8 [] <| .use aw124 <| .run 1 [(.ck 0)] <| .run 4 [] <|  .fin
theorem aw125k : crun cfz 163 aw125D [] (ent cfz 163 qa115) = some ((.d (.v (.bool true))), [.eqA qa115 qa115]) := by kernel_rfl
theorem aw125 : PureCalls cfz.P cfz.glob 163 qa115 (.d (.v (.bool true))) := closed_ok knil (by kernel_rfl) aw125k ⟨rfl, trivial⟩
def aw126D : CT cfz := .run 8 [] <| .use aw125 <| .run 1 [(.ck 0)] <| .run 1 [] <| .use aw42 <| .run 1 [(.ck 1)] <| .run 3 [] <|  .fin
theorem aw126k : crun cfz 113 aw126D [] (ent cfz 113 qa351) = some ((.d (.v (.int .i64 0))), [.eqA qa115 qa115, .eqA qa327 qa327]) := by kernel_rfl
theorem aw126 : PureCalls cfz.P cfz.glob 113 qa351 (.d (.v (.int .i64 0))) := closed_ok knil (by kernel_rfl) aw126k ⟨rfl, rfl, trivial⟩
def aw127D : CT cfz := .run 19 [] <| .use aw45 <| .run 1 [(.ck 0)] <| .use aw9 <| .run 1 [(.ck 1)] <| .run 3 [] <|  .fin
theorem aw127k : crun cfz 108 aw127D [] (ent cfz 108 qa16) = some ((.d (.v (.int .i64 0))), [.eqA qa181 qa181, .eqA qa361 qa361]) := by kernel_rfl
theorem aw127 : PureCalls cfz.P cfz.glob 108 qa16 (.d (.v (.int .i64 0))) := closed_ok knil (by kernel_rfl) aw127k ⟨rfl, rfl, trivial⟩
def aw128D : CT cfz := .run 10 [] <| .use aw2 <| .run 1 [(.ck 0)] <| .run 12 [] <| .use aw115 <| .use aw11 <| .use aw12 <| .use aw6 <| .run 1 [.none, .none, (.ck 1), .none, (.ck 2), .none, (.ck 3), (.ck 4)] <| .run 43 [] <| .use aw13 <| .use aw14 <| .use aw15 <| .use aw116 <| .run 1 [.none, (.ck 5), (.ck 6), .none, .none, (.ck 7), .none, (.ck 8), (.ck 4)] <| .run 40 [] <| .use aw18 <| .use aw118 <| .run 1 [.none, (.ck 9), (.ck 6), .none, .none, (.ck 7), .none, (.ck 10), (.ck 4)] <| .run 40 [] <| .use aw25 <| .use aw120 <| .run 1 [.none, (.ck 11), (.ck 6), .none, .none, (.ck 7), .none, (.ck 12), (.ck 4)] <| .run 40 [] <| .use aw31 <| .use aw122 <| .run 1 [.none, (.ck 13), (.ck 6), .none, .none, (.ck 7), .none, (.ck 14), (.ck 4)] <| .run 64 [] <| .use aw123 <| .use aw39 <| .use aw126 <| .use aw127 <| .run 1 [.none, .none, (.ck 15), (.ck 16), .none, (.ck 17), .none, .none, (.ck 18), (.ck 4)] <| .run 25 [] <|  .fin
theorem aw128k : crun cfz 23 aw128D [] (ent cfz 23 qa53) = some ((.d (.v (.int .i64 0))), [.eqA qa253 qa253, .eqA qa13 qa13, .eqA qa323 qa323, .eqA qa337 qa337, .eqA qa254 qa254, .eqA qa360 qa360, .eqA qa338 qa338, .eqA qa339 qa339, .eqA qa36 qa36, .eqA qa254 qa254, .eqA qa362 qa362, .eqA qa338 qa338, .eqA qa339 qa339, .eqA qa37 qa37, .eqA qa254 qa254, .eqA qa363 qa363, .eqA qa338 qa338, .eqA qa339 qa339, .eqA qa38 qa38, .eqA qa254 qa254, .eqA qa364 qa364, .eqA qa338 qa338, .eqA qa339 qa339, .eqA qa39 qa39, .eqA qa254 qa254, .eqA qa37 qa37, .eqA qa326 qa326, .eqA qa351 qa351, .eqA qa16 qa16, .eqA qa254 qa254]) := by kernel_rfl
theorem aw128 : PureCalls cfz.P cfz.glob 23 qa53 (.d (.v (.int .i64 0))) := closed_ok knil (by kernel_rfl) aw128k ⟨rfl, rfl, rfl, rfl, rfl, rfl, rfl, rfl, rfl, rfl, rfl, rfl, rfl, rfl, rfl, rfl, rfl, rfl, rfl, rfl, rfl, rfl, rfl, rfl, rfl, rfl, rfl, rfl, rfl, rfl, trivial⟩
def aw129D : CT cfz := .run 19 [] <|  .fin
theorem aw129k : crun cfz 112 aw129D [] (ent cfz 112 qa38) = some ((.d (.v (.bool true))), []) := by kernel_rfl
theorem aw129 : PureCalls cfz.P cfz.glob 112 qa38 (.d (.v (.bool true))) := closed_ok knil (by kernel_rfl) aw129k trivial
def aw130D : CT cfz := .run 8 [] <| .use aw129 <| .run 1 [(.ck 0)] <| .run 4 [] <|  .fin
theorem aw130k : crun cfz 153 aw130D [] (ent cfz 153 qa46) = some ((.d (.v (.bool false))), [.eqA qa38 qa38]) := by kernel_rfl
theorem aw130 : PureCalls cfz.P cfz.glob 153 qa46 (.d (.v (.bool false))) := closed_ok knil (by kernel_rfl) aw130k ⟨rfl, trivial⟩
def aw131D : CT cfz := .run 19 [] <|  .fin
theorem aw131k : crun cfz 112 aw131D [] (ent cfz 112 qa39) = some ((.d (.v (.bool true))), []) := by kernel_rfl
theorem aw131 : PureCalls cfz.P cfz.glob 112 qa39 (.d (.v (.bool true))) := closed_ok knil (by kernel_rfl) aw131k trivial
def aw132D : CT cfz := .run 8 [] <| .use aw131 <| .run 1 [(.ck 0)] <| .run 4 [] <|  .fin
theorem aw132k : crun cfz 153 aw132D [] (ent cfz 153 qa47) = some ((.d (.v (.bool false))), [.eqA qa39 qa39]) := by kernel_rfl
theorem aw132 : PureCalls cfz.P cfz.glob 153 qa47 (.d (.v (.bool false))) := closed_ok knil (by kernel_rfl) aw132k ⟨rfl, trivial⟩
def aw133D : CT cfz := .run 34 [] <| .use aw130 <| .run 1 [(.ck 0)] <| .run 30 [] <| .use aw132 <| .run 1 [(.ck 1)] <| .run 21 [] <|  .fin
theorem aw133k : crun cfz 155 aw133D [] (ent cfz 155 qa7) = some ((.d (.v (.int .i64 (-1)))), [.eqA qa46 qa46, .eqA qa47 qa47]) := by kernel_rfl
theorem aw133 : PureCalls cfz.P cfz.glob 155 qa7 (.d (.v (.int .i64 (-1)))) := closed_ok knil (by kernel_rfl) aw133k ⟨rfl, rfl, trivial⟩
def aw134D : CT cfz := .run 8 [] <| .use aw133 <| .run 1 [(.ck 0)] <| .run 4 [] <|  .fin
theorem aw134k : crun cfz 152 aw134D [] (ent cfz 152 qa7) = some ((.d (.v (.bool false))), [.eqA qa7 qa7]) := by kernel_rfl
theorem aw134 : PureCalls cfz.P cfz.glob 152 qa7 (.d (.v (.bool false))) := closed_ok knil (by kernel_rfl) aw134k ⟨rfl, trivial⟩
def aw135D : CT cfz := .run 8 [] <| .use aw128 <| .run 1 [(.ck 0)] <| .run 2 [] <| .use aw134 <| .run 1 [(.ck 1)] <| .use aw39 <| .run 1 [(.ck 2)] <| .run 1 [] <| .use aw54 <| .run 1 [(.ck 3)] <| .run 3 [] <|  .fin
theorem aw135k : crun cfz 101 aw135D [] (ent cfz 101 qa17) = some ((.d (.v (.int .i64 0))), [.eqA qa53 qa53, .eqA qa7 qa7, .eqA qa326 qa326, .eqA qa310 qa310]) := by kernel_rfl
theorem aw135 : PureCalls cfz.P cfz.glob 101 qa17 (.d (.v (.int .i64 0))) := closed_ok knil (by kernel_rfl) aw135k ⟨rfl, rfl, rfl, rfl, trivial⟩
def aw136D : CT cfz := .run 15 [] <| .use aw39 <| .run 1 [(.ck 0)] <| .run 3 [] <|  .fin
theorem aw136k : crun cfz 114 aw136D [] (ent cfz 114 qa36) = some ((.d (.v (.int .i64 0))), [.eqA qa326 qa326]) := by kernel_rfl
theorem aw136 : PureCalls cfz.P cfz.glob 114 qa36 (.d (.v (.int .i64 0))) := closed_ok knil (by kernel_rfl) aw136k ⟨rfl, trivial⟩
def aw137D : CT cfz := .run 14 [] <|  .fin
theorem aw137k : crun cfz 117 aw137D [] (ent cfz 117 qa1) = some ((.fn (.func 168) [] [(.ip qa59), (.ip [(.v (.int .i64 2))]), (.ip [(.v (.int .i64 3))]), (.ip [(.v (.int .i64 0))])]), []) := by kernel_rfl
theorem aw137 : PureCalls cfz.P cfz.glob 117 qa1 (.fn (.func 168) [] [(.ip qa59), (.ip [(.v (.int .i64 2))]), (.ip [(.v (.int .i64 3))]), (.ip [(.v (.int .i64 0))])]) := closed_ok knil (by kernel_rfl) aw137k trivial
def aw138D : CT cfz := .run 84 [] <|  .fin
theorem aw138k : crun cfz 154 aw138D [] (ent cfz 154 qa38) = some (qa266, []) := by kernel_rfl
theorem aw138 : PureCalls cfz.P cfz.glob 154 qa38 qa266 := closed_ok knil (by kernel_rfl) aw138k trivial
def aw139D : CT cfz := .run 56 [] <|  .fin
theorem aw139k : crun cfz 154 aw139D [] (ent cfz 154 qa39) = some (qa319, []) := by kernel_rfl
theorem aw139 : PureCalls cfz.P cfz.glob 154 qa39 qa319 := closed_ok knil (by kernel_rfl) aw139k trivial
def aw140D : CT cfz := .run 7 [] <| .use aw138 <| .use aw139 <| .run 1 [.none, (.ck 0), .none, (.ck 1), .none] <| .run 4 [] <| .use aw67 <| .run 1 [(.ck 2)] <| .run 8 [] <| .run 1 [.enter] <| .run 25 [] <| .use aw64 <| .run 1 [.none, .none, .none, (.ck 3), .enter] <| .run 25 [] <| .use aw68 <| .run 1 [(.ck 4)] <| .run 9 [] <|  .fin
theorem aw140k : crun cfz 102 aw140D [] (ent cfz 102 qa28) = some (qa187, [.eqA qa38 qa38, .eqA qa39 qa39, .eqA qa125 qa125, .eqA qa235 qa235, .eqA qa365 qa365]) := by kernel_rfl
theorem aw140 : PureCalls cfz.P cfz.glob 102 qa28 qa187 := closed_ok knil (by kernel_rfl) aw140k ⟨rfl, rfl, rfl, rfl, rfl, trivial⟩
def aw141D : CT cfz := .run 7 [] <| .run 1 [.enter] <| .run 17 [] <| .use aw140 <| .run 1 [(.ck 0)] <| .run 179 [] <| .use aw100 <| .run 1 [(.ck 1)] <| .run 63 [] <| .run 1 [.enter] <| .run 31 [] <|  .fin
theorem aw141k : crun cfz 116 aw141D [] (ent cfz 116 [(.fn (.func 168) [] [(.ip qa59), (.ip [(.v (.int .i64 2))]), (.ip [(.v (.int .i64 3))]), (.ip [(.v (.int .i64 0))])])]) = some (qa93, [.eqA qa28 qa28, .eqA qa158 qa158]) := by kernel_rfl
theorem aw141 : PureCalls cfz.P cfz.glob 116 [(.fn (.func 168) [] [(.ip qa59), (.ip [(.v (.int .i64 2))]), (.ip [(.v (.int .i64 3))]), (.ip [(.v (.int .i64 0))])])] qa93 := closed_ok knil (by kernel_rfl) aw141k ⟨rfl, rfl, trivial⟩
def aw142D : CT cfz := .run 12 [] <|  .fin
theorem aw142k : crun cfz 165 aw142D [] (ent cfz 165 qa217) = some ((.d (.v (.bool true))), []) := by kernel_rfl
theorem aw142 : PureCalls cfz.P cfz.glob 165 qa217 (.d (.v (.bool true))) := closed_ok knil (by kernel_rfl) aw142k trivial
def aw143D : CT cfz := .run 34 [] <| .use aw102 <| .run 1 [(.ck 0)] <| .run 30 [] <| .use aw89 <| .run 1 [(.ck 1)] <| .run 30 [] <| .use aw103 <| .run 1 [(.ck 2)] <| .run 30 [] <| .use aw142 <| .run 1 [(.ck 3)] <| .run 8 [] <|  .fin
theorem aw143k : crun cfz 187 aw143D [] (ent cfz 187 qa66) = some ((.d (.v (.int .i64 3))), [.eqA qa206 qa206, .eqA qa204 qa204, .eqA qa194 qa194, .eqA qa217 qa217]) := by kernel_rfl
theorem aw143 : PureCalls cfz.P cfz.glob 187 qa66 (.d (.v (.int .i64 3))) := closed_ok knil (by kernel_rfl) aw143k ⟨rfl, rfl, rfl, rfl, trivial⟩
def aw144D : CT cfz := .run 8 [] <| .use aw143 <| .run 1 [(.ck 0)] <| .run 4 [] <|  .fin
theorem aw144k : crun cfz 164 aw144D [] (ent cfz 164 qa66) = some ((.d (.v (.bool true))), [.eqA qa66 qa66]) := by kernel_rfl
theorem aw144 : PureCalls cfz.P cfz.glob 164 qa66 (.d (.v (.bool true))) := closed_ok knil (by kernel_rfl) aw144k ⟨rfl, trivial⟩
def aw145D : CT cfz := .run 16 [] <|  .fin
theorem aw145k : crun cfz 109 aw145D [] (ent cfz 109 qa342) = some ((.d (.v (.int .i64 32))), []) := by kernel_rfl
theorem aw145 : PureCalls cfz.P cfz.glob 109 qa342 (.d (.v (.int .i64 32))) := closed_ok knil (by kernel_rfl) aw145k trivial
def aw146D : CT cfz := .run 40 [] <|  .fin
theorem aw146k : crun cfz 107 aw146D [] (ent cfz 107 qa302) = some ((.d (.v (.int .i64 32))), []) := by kernel_rfl
theorem aw146 : PureCalls cfz.P cfz.glob 107 qa302 (.d (.v (.int .i64 32))) := closed_ok knil (by kernel_rfl) aw146k trivial
def aw147D : CT cfz := .run 12 [] <| .use aw137 <| .run 1 [(.ck 0)] <| .use aw141 <| .run 1 [(.ck 1)] <| .run 6 [] <| .use aw144 <| .run 1 [(.ck 2)] <| .use aw145 <| .run 1 [(.ck 3)] <| .run 3 [] <| .use aw94 <| .run 1 [(.ck 4)] <| .run 1 [] <| .use aw146 <| .run 1 [(.ck 5)] <| .run 16 [] <|  .fin
theorem aw147k : crun cfz 115 aw147D [] (ent cfz 115 qa1) = some (qa189, [.eqA qa1 qa1, .eqA [(.fn (.func 168) [] [(.ip qa59), (.ip [(.v (.int .i64 2))]), (.ip [(.v (.int .i64 3))]), (.ip [(.v (.int .i64 0))])])] [(.fn (.func 168) [] [(.ip qa59), (.ip [(.v (.int .i64 2))]), (.ip [(.v (.int .i64 3))]), (.ip [(.v (.int .i64 0))])])], .eqA qa66 qa66, .eqA qa342 qa342, .eqA qa341 qa341, .eqA qa302 qa302]) := by kernel_rfl
theorem aw147 : PureCalls cfz.P cfz.glob 115 qa1 qa189 := closed_ok knil (by kernel_rfl) aw147k ⟨rfl, rfl, rfl, rfl, rfl, rfl, trivial⟩
def aw148D : CT cfz := .run 9 [] <| .use aw135 <| .use aw136 <| .use aw54 <| .run 1 [.none, (.ck 0), .none, (.ck 1), (.ck 2)] <| .run 13 [] <| .use aw147 <| .run 1 [(.ck 3)] <| .run 6 [] <|  .fin
theorem aw148k : crun cfz 25 aw148D [] (ent cfz 25 qa1) = some (qa189, [.eqA qa17 qa17, .eqA qa36 qa36, .eqA qa310 qa310, .eqA qa1 qa1]) := by kernel_rfl
theorem aw148 : PureCalls cfz.P cfz.glob 25 qa1 qa189 := closed_ok knil (by kernel_rfl) aw148k ⟨rfl, rfl, rfl, rfl, trivial⟩
def aw149D : CT cfz := .run 21 [] <|  .fin
theorem aw149k : crun cfz 118 aw149D [] (ent cfz 118 qa285) = some ((.d (.v (.int .i64 4))), []) := by kernel_rfl
theorem aw149 : PureCalls cfz.P cfz.glob 118 qa285 (.d (.v (.int .i64 4))) := closed_ok knil (by kernel_rfl) aw149k trivial
def aw150D : CT cfz := .run 21 [] <|  .fin
theorem aw150k : crun cfz 118 aw150D [] (ent cfz 118 qa284) = some ((.d (.v (.int .i64 2))), []) := by kernel_rfl
theorem aw150 : PureCalls cfz.P cfz.glob 118 qa284 (.d (.v (.int .i64 2))) := closed_ok knil (by kernel_rfl) aw150k trivial
def aw151D : CT cfz := .run 21 [] <|  .fin
theorem aw151k : crun cfz 118 aw151D [] (ent cfz 118 qa278) = some ((.d (.v (.int .i64 2))), []) := by kernel_rfl
theorem aw151 : PureCalls cfz.P cfz.glob 118 qa278 (.d (.v (.int .i64 2))) := closed_ok knil (by kernel_rfl) aw151k trivial
def aw152D : CT cfz := .run 21 [] <|  .fin
theorem aw152k : crun cfz 118 aw152D [] (ent cfz 118 qa286) = some ((.d (.v (.int .i64 5))), []) := by kernel_rfl
theorem aw152 : PureCalls cfz.P cfz.glob 118 qa286 (.d (.v (.int .i64 5))) := closed_ok knil (by kernel_rfl) aw152k trivial
def aw153D : CT cfz := .run 21 [] <|  .fin
theorem aw153k : crun cfz 118 aw153D [] (ent cfz 118 qa283) = some ((.d (.v (.int .i64 1))), []) := by kernel_rfl
theorem aw153 : PureCalls cfz.P cfz.glob 118 qa283 (.d (.v (.int .i64 1))) := closed_ok knil (by kernel_rfl) aw153k trivial
def aw154D : CT cfz := .run 9 [] <| .use aw135 <| .use aw136 <| .use aw54 <| .run 1 [.none, (.ck 0), .none, (.ck 1), (.ck 2)] <| .run 13 [] <| .use aw137 <| .run 1 [(.ck 3)] <| .use aw141 <| .run 1 [(.ck 4)] <| .run 44 [] <| .use aw149 <| .run 1 [.none, .none, (.ck 5), .none] <| .run 8 [] <| .run 1 [.none, .none, (.ck 5), .none] <| .run 24 [] <| .use aw150 <| .run 1 [.none, .none, (.ck 6), .none] <| .run 8 [] <| .run 1 [.none, .none, (.ck 6), .none] <| .run 24 [] <| .use aw151 <| .run 1 [.none, .none, (.ck 7), .none] <| .run 8 [] <| .run 1 [.none, .none, (.ck 7), .none] <| .run 24 [] <| .use aw152 <| .run 1 [.none, .none, (.ck 8), .none] <| .run 32 [] <| .use aw153 <| .run 1 [.none, .none, (.ck 9), .none] <| .run 8 [] <| .run 1 [.none, .none, (.ck 9), .none] <| .run 37 [] <|  .fin
theorem aw154k : crun cfz 26 aw154D [] (ent cfz 26 qa1) = some (qa188, [.eqA qa17 qa17, .eqA qa36 qa36, .eqA qa310 qa310, .eqA qa1 qa1, .eqA [(.fn (.func 168) [] [(.ip qa59), (.ip [(.v (.int .i64 2))]), (.ip [(.v (.int .i64 3))]), (.ip [(.v (.int .i64 0))])])] [(.fn (.func 168) [] [(.ip qa59), (.ip [(.v (.int .i64 2))]), (.ip [(.v (.int .i64 3))]), (.ip [(.v (.int .i64 0))])])], .eqA qa285 qa285, .eqA qa285 qa285, .eqA qa284 qa284, .eqA qa284 qa284, .eqA qa278 qa278, .eqA qa278 qa278, .eqA qa286 qa286, .eqA qa283 qa283, .eqA qa283 qa283]) := by kernel_rfl
theorem aw154 : PureCalls cfz.P cfz.glob 26 qa1 qa188 := closed_ok knil (by kernel_rfl) aw154k ⟨rfl, rfl, rfl, rfl, rfl, rfl, rfl, rfl, rfl, rfl, rfl, rfl, rfl, rfl, trivial⟩
def aw155D : CT cfz := .run 28 [] <|  .fin
theorem aw155k : crun cfz 98 aw155D [] (ent cfz 98 qa350) = some (qa54, []) := by kernel_rfl
theorem aw155 : PureCalls cfz.P cfz.glob 98 qa350 qa54 := closed_ok knil (by kernel_rfl) aw155k trivial
def aw156D : CT cfz := .run 19 [] <| .use aw8 <| .run 1 [(.ck 0)] <| .use aw9 <| .run 1 [(.ck 1)] <| .run 3 [] <|  .fin
theorem aw156k : crun cfz 108 aw156D [] (ent cfz 108 qa8) = some ((.d (.v (.int .i64 0))), [.eqA qa178 qa178, .eqA qa361 qa361]) := by kernel_rfl
theorem aw156 : PureCalls cfz.P cfz.glob 108 qa8 (.d (.v (.int .i64 0))) := closed_ok knil (by kernel_rfl) aw156k ⟨rfl, rfl, trivial⟩
def aw157D : CT cfz := .run 38 [] <| .use aw16 <| .run 1 [(.ck 0)] <| .run 3 [] <|  .fin
theorem aw157k : crun cfz 111 aw157D [] (ent cfz 111 qa32) = some ((.d (.v (.int .i64 0))), [.eqA qa324 qa324]) := by kernel_rfl
theorem aw157 : PureCalls cfz.P cfz.glob 111 qa32 (.d (.v (.int .i64 0))) := closed_ok knil (by kernel_rfl) aw157k ⟨rfl, trivial⟩
def aw158D : CT cfz := .run 19 [] <| .use aw22 <| .run 1 [(.ck 0)] <| .use aw9 <| .run 1 [(.ck 1)] <| .run 3 [] <|  .fin
theorem aw158k : crun cfz 108 aw158D [] (ent cfz 108 qa9) = some ((.d (.v (.int .i64 0))), [.eqA qa179 qa179, .eqA qa361 qa361]) := by kernel_rfl
theorem aw158 : PureCalls cfz.P cfz.glob 108 qa9 (.d (.v (.int .i64 0))) := closed_ok knil (by kernel_rfl) aw158k ⟨rfl, rfl, trivial⟩
def aw159D : CT cfz := .run 40 [] <| .use aw19 <| .use aw20 <| .use aw158 <| .use aw6 <| .run 1 [.none, (.ck 0), .none, (.br false), (.br false), (.br false), (.br false), (.br false), (.br false), (.br false), (.br false), (.br false), (.br false), .none, (.ck 1), .none, .none, (.ck 2), (.ck 3)] <| .run 1 [] <|  .fin
theorem aw159k : crun cfz 111 aw159D [] (ent cfz 111 qa33) = some ((.d (.v (.int .i64 0))), [.eqA qa255 qa255, .eqA qa325 qa325, .eqA qa9 qa9, .eqA qa254 qa254]) := by kernel_rfl
theorem aw159 : PureCalls cfz.P cfz.glob 111 qa33 (.d (.v (.int .i64 0))) := closed_ok knil (by kernel_rfl) aw159k ⟨rfl, rfl, rfl, rfl, trivial⟩
def aw160D : CT cfz := .run 19 [] <| .use aw28 <| .run 1 [(.ck 0)] <| .use aw9 <| .run 1 [(.ck 1)] <| .run 3 [] <|  .fin
theorem aw160k : crun cfz 108 aw160D [] (ent cfz 108 qa10) = some ((.d (.v (.int .i64 0))), [.eqA qa180 qa180, .eqA qa361 qa361]) := by kernel_rfl
theorem aw160 : PureCalls cfz.P cfz.glob 108 qa10 (.d (.v (.int .i64 0))) := closed_ok knil (by kernel_rfl) aw160k ⟨rfl, rfl, trivial⟩
def aw161D : CT cfz := .run 40 [] <| .use aw19 <| .use aw20 <| .use aw160 <| .use aw6 <| .run 1 [.none, (.ck 0), .none, (.br true), (.br true), .none, (.br true), (.br true), .none, (.br true), (.br true), (.br true), .none, (.br true), (.br true), .none, (.br true), .none, (.ck 1), .none, .none, (.ck 2), (.ck 3)] <| .run 1 [] <|  .fin
theorem aw161k : crun cfz 111 aw161D [] (ent cfz 111 qa34) = some ((.d (.v (.int .i64 0))), [.eqA qa255 qa255, .eqA qa325 qa325, .eqA qa10 qa10, .eqA qa254 qa254]) := by kernel_rfl
theorem aw161 : PureCalls cfz.P cfz.glob 111 qa34 (.d (.v (.int .i64 0))) := closed_ok knil (by kernel_rfl) aw161k ⟨rfl, rfl, rfl, rfl, trivial⟩
def aw162D : CT cfz := .run 19 [] <| .use aw35 <| .run 1 [(.ck 0)] <| .use aw9 <| .run 1 [(.ck 1)] <| .run 3 [] <|  .fin
theorem aw162k : crun cfz 108 aw162D [] (ent cfz 108 qa4) = some ((.d (.v (.int .i64 0))), [.eqA qa176 qa176, .eqA qa361 qa361]) := by kernel_rfl
theorem aw162 : PureCalls cfz.P cfz.glob 108 qa4 (.d (.v (.int .i64 0))) := closed_ok knil (by kernel_rfl) aw162k ⟨rfl, rfl, trivial⟩
def aw163D : CT cfz := .run 40 [] <| .use aw32 <| .use aw20 <| .use aw162 <| .use aw6 <| .run 1 [.none, (.ck 0), .none, (.br false), (.br false), (.br false), (.br false), (.br false), (.br false), (.br false), (.br false), (.br false), (.br false), .none, (.ck 1), .none, .none, (.ck 2), (.ck 3)] <| .run 1 [] <|  .fin
theorem aw163k : crun cfz 111 aw163D [] (ent cfz 111 qa35) = some ((.d (.v (.int .i64 0))), [.eqA qa256 qa256, .eqA qa325 qa325, .eqA qa4 qa4, .eqA qa254 qa254]) := by kernel_rfl
theorem aw163 : PureCalls cfz.P cfz.glob 111 qa35 (.d (.v (.int .i64 0))) := closed_ok knil (by kernel_rfl) aw163k ⟨rfl, rfl, rfl, rfl, trivial⟩
def aw164D : CT cfz := .run 19 [] <|  .fin
theorem aw164k : crun cfz 112 aw164D [] (ent cfz 112 qa33) = some ((.d (.v (.bool true))), []) := by kernel_rfl
theorem aw164 : PureCalls cfz.P cfz.glob 112 qa33 (.d (.v (.bool true))) := closed_ok knil (by kernel_rfl) aw164k trivial
def aw165D : CT cfz := .run 74 [] <|  .fin
theorem aw165k : crun cfz 186 aw165D [] (ent cfz 186 qa114) = some ((.d (.v (.int .i64 1))), []) := by kernel_rfl
theorem aw165 : PureCalls cfz.P cfz.glob 186 qa114 (.d (.v (.int .i64 1))) := closed_ok knil (by kernel_rfl) aw165k trivial
def aw166D : CT cfz := .run 8 [] <| .use aw165 <| .run 1 [(.ck 0)] <| .run 4 [] <|  .fin
theorem aw166k : crun cfz 163 aw166D [] (ent cfz 163 qa114) = some ((.d (.v (.bool true))), [.eqA qa114 qa114]) := by kernel_rfl
theorem aw166 : PureCalls cfz.P cfz.glob 163 qa114 (.d (.v (.bool true))) := closed_ok knil (by kernel_rfl) aw166k ⟨rfl, trivial⟩
def aw167D : CT cfz := .run 8 [] <| .use aw166 <| .run 1 [(.ck 0)] <| .run 1 [] <| .use aw42 <| .run 1 [(.ck 1)] <| .run 3 [] <|  .fin
theorem aw167k : crun cfz 113 aw167D [] (ent cfz 113 qa350) = some ((.d (.v (.int .i64 0))), [.eqA qa114 qa114, .eqA qa327 qa327]) := by kernel_rfl
theorem aw167 : PureCalls cfz.P cfz.glob 113 qa350 (.d (.v (.int .i64 0))) := closed_ok knil (by kernel_rfl) aw167k ⟨rfl, rfl, trivial⟩
def aw168D : CT cfz := .run 19 [] <| .use aw45 <| .run 1 [(.ck 0)] <| .use aw9 <| .run 1 [(.ck 1)] <| .run 3 [] <|  .fin
theorem aw168k : crun cfz 108 aw168D [] (ent cfz 108 qa11) = some ((.d (.v (.int .i64 0))), [.eqA qa181 qa181, .eqA qa361 qa361]) := by kernel_rfl
theorem aw168 : PureCalls cfz.P cfz.glob 108 qa11 (.d (.v (.int .i64 0))) := closed_ok knil (by kernel_rfl) aw168k ⟨rfl, rfl, trivial⟩
def aw169D : CT cfz := .run 10 [] <| .use aw2 <| .run 1 [(.ck 0)] <| .run 12 [] <| .use aw156 <| .use aw11 <| .use aw12 <| .use aw6 <| .run 1 [.none, .none, (.ck 1), .none, (.ck 2), .none, (.ck 3), (.ck 4)] <| .run 43 [] <| .use aw13 <| .use aw14 <| .use aw15 <| .use aw157 <| .run 1 [.none, (.ck 5), (.ck 6), .none, .none, (.ck 7), .none, (.ck 8), (.ck 4)] <| .run 40 [] <| .use aw18 <| .use aw159 <| .run 1 [.none, (.ck 9), (.ck 6), .none, .none, (.ck 7), .none, (.ck 10), (.ck 4)] <| .run 40 [] <| .use aw25 <| .use aw161 <| .run 1 [.none, (.ck 11), (.ck 6), .none, .none, (.ck 7), .none, (.ck 12), (.ck 4)] <| .run 40 [] <| .use aw31 <| .use aw163 <| .run 1 [.none, (.ck 13), (.ck 6), .none, .none, (.ck 7), .none, (.ck 14), (.ck 4)] <| .run 64 [] <| .use aw164 <| .use aw39 <| .use aw167 <| .use aw168 <| .run 1 [.none, .none, (.ck 15), (.ck 16), .none, (.ck 17), .none, .none, (.ck 18), (.ck 4)] <| .run 25 [] <|  .fin
theorem aw169k : crun cfz 23 aw169D [] (ent cfz 23 qa48) = some ((.d (.v (.int .i64 0))), [.eqA qa253 qa253, .eqA qa8 qa8, .eqA qa323 qa323, .eqA qa337 qa337, .eqA qa254 qa254, .eqA qa360 qa360, .eqA qa338 qa338, .eqA qa339 qa339, .eqA qa32 qa32, .eqA qa254 qa254, .eqA qa362 qa362, .eqA qa338 qa338, .eqA qa339 qa339, .eqA qa33 qa33, .eqA qa254 qa254, .eqA qa363 qa363, .eqA qa338 qa338, .eqA qa339 qa339, .eqA qa34 qa34, .eqA qa254 qa254, .eqA qa364 qa364, .eqA qa338 qa338, .eqA qa339 qa339, .eqA qa35 qa35, .eqA qa254 qa254, .eqA qa33 qa33, .eqA qa326 qa326, .eqA qa350 qa350, .eqA qa11 qa11, .eqA qa254 qa254]) := by kernel_rfl
theorem aw169 : PureCalls cfz.P cfz.glob 23 qa48 (.d (.v (.int .i64 0))) := closed_ok knil (by kernel_rfl) aw169k ⟨rfl, rfl, rfl, rfl, rfl, rfl, rfl, rfl, rfl, rfl, rfl, rfl, rfl, rfl, rfl, rfl, rfl, rfl, rfl, rfl, rfl, rfl, rfl, rfl, rfl, rfl, rfl, rfl, rfl, rfl, trivial⟩
def aw170D : CT cfz := .run 19 [] <|  .fin
theorem aw170k : crun cfz 112 aw170D [] (ent cfz 112 qa34) = some ((.d (.v (.bool true))), []) := by kernel_rfl
theorem aw170 : PureCalls cfz.P cfz.glob 112 qa34 (.d (.v (.bool true))) := closed_ok knil (by kernel_rfl) aw170k trivial
def aw171D : CT cfz := .run 8 [] <| .use aw170 <| .run 1 [(.ck 0)] <| .run 4 [] <|  .fin
theorem aw171k : crun cfz 153 aw171D [] (ent cfz 153 qa44) = some ((.d (.v (.bool false))), [.eqA qa34 qa34]) := by kernel_rfl
theorem aw171 : PureCalls cfz.P cfz.glob 153 qa44 (.d (.v (.bool false))) := closed_ok knil (by kernel_rfl) aw171k ⟨rfl, trivial⟩
def aw172D : CT cfz := .run 19 [] <|  .fin
theorem aw172k : crun cfz 112 aw172D [] (ent cfz 112 qa35) = some ((.d (.v (.bool true))), []) := by kernel_rfl
theorem aw172 : PureCalls cfz.P cfz.glob 112 qa35 (.d (.v (.bool true))) := closed_ok knil (by kernel_rfl) aw172k trivial
def aw173D : CT cfz := .run 8 [] <| .use aw172 <| .run 1 [(.ck 0)] <| .run 4 [] <|  .fin
theorem aw173k : crun cfz 153 aw173D [] (ent cfz 153 qa45) = some ((.d (.v (.bool false))), [.eqA qa35 qa35]) := by kernel_rfl
theorem aw173 : PureCalls cfz.P cfz.glob 153 qa45 (.d (.v (.bool false))) := closed_ok knil (by kernel_rfl) aw173k ⟨rfl, trivial⟩
def aw174D : CT cfz := .run 34 [] <| .use aw171 <| .run 1 [(.ck 0)] <| .run 30 [] <| .use aw173 <| .run 1 [(.ck 1)] <| .run 21 [] <|  .fin
theorem aw174k : crun cfz 155 aw174D [] (ent cfz 155 qa6) = some ((.d (.v (.int .i64 (-1)))), [.eqA qa44 qa44, .eqA qa45 qa45]) := by kernel_rfl
theorem aw174 : PureCalls cfz.P cfz.glob 155 qa6 (.d (.v (.int .i64 (-1)))) := closed_ok knil (by kernel_rfl) aw174k ⟨rfl, rfl, trivial⟩
def aw175D : CT cfz := .run 8 [] <| .use aw174 <| .run 1 [(.ck 0)] <| .run 4 [] <|  .fin
theorem aw175k : crun cfz 152 aw175D [] (ent cfz 152 qa6) = some ((.d (.v (.bool false))), [.eqA qa6 qa6]) := by kernel_rfl
theorem aw175 : PureCalls cfz.P cfz.glob 152 qa6 (.d (.v (.bool false))) := closed_ok knil (by kernel_rfl) aw175k ⟨rfl, trivial⟩
def aw176D : CT cfz := .run 8 [] <| .use aw169 <| .run 1 [(.ck 0)] <| .run 2 [] <| .use aw175 <| .run 1 [(.ck 1)] <| .use aw39 <| .run 1 [(.ck 2)] <| .run 1 [] <| .use aw54 <| .run 1 [(.ck 3)] <| .run 3 [] <|  .fin
theorem aw176k : crun cfz 101 aw176D [] (ent cfz 101 qa12) = some ((.d (.v (.int .i64 0))), [.eqA qa48 qa48, .eqA qa6 qa6, .eqA qa326 qa326, .eqA qa310 qa310]) := by kernel_rfl
theorem aw176 : PureCalls cfz.P cfz.glob 101 qa12 (.d (.v (.int .i64 0))) := closed_ok knil (by kernel_rfl) aw176k ⟨rfl, rfl, rfl, rfl, trivial⟩
def aw177D : CT cfz := .run 15 [] <| .use aw39 <| .run 1 [(.ck 0)] <| .run 3 [] <|  .fin
theorem aw177k : crun cfz 114 aw177D [] (ent cfz 114 qa32) = some ((.d (.v (.int .i64 0))), [.eqA qa326 qa326]) := by kernel_rfl
theorem aw177 : PureCalls cfz.P cfz.glob 114 qa32 (.d (.v (.int .i64 0))) := closed_ok knil (by kernel_rfl) aw177k ⟨rfl, trivial⟩
def aw178D : CT cfz := .run 14 [] <|  .fin
theorem aw178k : crun cfz 117 aw178D [] (ent cfz 117 qa0) = some ((.fn (.func 168) [] [(.ip qa58), (.ip [(.v (.int .i64 2))]), (.ip [(.v (.int .i64 3))]), (.ip [(.v (.int .i64 0))])]), []) := by kernel_rfl
theorem aw178 : PureCalls cfz.P cfz.glob 117 qa0 (.fn (.func 168) [] [(.ip qa58), (.ip [(.v (.int .i64 2))]), (.ip [(.v (.int .i64 3))]), (.ip [(.v (.int .i64 0))])]) := closed_ok knil (by kernel_rfl) aw178k trivial
def aw179D : CT cfz := .run 84 [] <|  .fin
theorem aw179k : crun cfz 154 aw179D [] (ent cfz 154 qa34) = some (qa266, []) := by kernel_rfl
theorem aw179 : PureCalls cfz.P cfz.glob 154 qa34 qa266 := closed_ok knil (by kernel_rfl) aw179k trivial
def aw180D : CT cfz := .run 56 [] <|  .fin
theorem aw180k : crun cfz 154 aw180D [] (ent cfz 154 qa35) = some (qa319, []) := by kernel_rfl
theorem aw180 : PureCalls cfz.P cfz.glob 154 qa35 qa319 := closed_ok knil (by kernel_rfl) aw180k trivial
def aw181D : CT cfz := .run 7 [] <| .use aw179 <| .use aw180 <| .run 1 [.none, (.ck 0), .none, (.ck 1), .none] <| .run 4 [] <| .use aw67 <| .run 1 [(.ck 2)] <| .run 8 [] <| .run 1 [.enter] <| .run 25 [] <| .use aw64 <| .run 1 [.none, .none, .none, (.ck 3), .enter] <| .run 25 [] <| .use aw68 <| .run 1 [(.ck 4)] <| .run 9 [] <|  .fin
theorem aw181k : crun cfz 102 aw181D [] (ent cfz 102 qa27) = some (qa187, [.eqA qa34 qa34, .eqA qa35 qa35, .eqA qa125 qa125, .eqA qa235 qa235, .eqA qa365 qa365]) := by kernel_rfl
theorem aw181 : PureCalls cfz.P cfz.glob 102 qa27 qa187 := closed_ok knil (by kernel_rfl) aw181k ⟨rfl, rfl, rfl, rfl, rfl, trivial⟩
def aw182D : CT cfz := .run 7 [] <| .run 1 [.enter] <| .run 17 [] <| .use aw181 <| .run 1 [(.ck 0)] <| .run 212 [] <| .run 1 [.enter] <| .run 31 [] <|  .fin
theorem aw182k : crun cfz 116 aw182D [] (ent cfz 116 [(.fn (.func 168) [] [(.ip qa58), (.ip [(.v (.int .i64 2))]), (.ip [(.v (.int .i64 3))]), (.ip [(.v (.int .i64 0))])])]) = some (qa101, [.eqA qa27 qa27]) := by kernel_rfl
theorem aw182 : PureCalls cfz.P cfz.glob 116 [(.fn (.func 168) [] [(.ip qa58), (.ip [(.v (.int .i64 2))]), (.ip [(.v (.int .i64 3))]), (.ip [(.v (.int .i64 0))])])] qa101 := closed_ok knil (by kernel_rfl) aw182k ⟨rfl, trivial⟩
def aw183D : CT cfz := .run 34 [] <| .use aw102 <| .run 1 [(.ck 0)] <| .run 30 [] <| .use aw89 <| .run 1 [(.ck 1)] <| .run 30 [] <| .use aw103 <| .run 1 [(.ck 2)] <| .run 30 [] <| .use aw104 <| .run 1 [(.ck 3)] <| .run 21 [] <|  .fin
theorem aw183k : crun cfz 187 aw183D [] (ent cfz 187 qa94) = some ((.d (.v (.int .i64 (-1)))), [.eqA qa206 qa206, .eqA qa204 qa204, .eqA qa194 qa194, .eqA qa207 qa207]) := by kernel_rfl
theorem aw183 : PureCalls cfz.P cfz.glob 187 qa94 (.d (.v (.int .i64 (-1)))) := closed_ok knil (by kernel_rfl) aw183k ⟨rfl, rfl, rfl, rfl, trivial⟩
def aw184D : CT cfz := .run 8 [] <| .use aw183 <| .run 1 [(.ck 0)] <| .run 4 [] <|  .fin
theorem aw184k : crun cfz 164 aw184D [] (ent cfz 164 qa94) = some ((.d (.v (.bool false))), [.eqA qa94 qa94]) := by kernel_rfl
theorem aw184 : PureCalls cfz.P cfz.glob 164 qa94 (.d (.v (.bool false))) := closed_ok knil (by kernel_rfl) aw184k ⟨rfl, trivial⟩
def aw185D : CT cfz := .run 38 [] <|  .fin
theorem aw185k : crun cfz 166 aw185D [] (ent cfz 166 qa143) = some (qa294, []) := by kernel_rfl
theorem aw185 : PureCalls cfz.P cfz.glob 166 qa143 qa294 := closed_ok knil (by kernel_rfl) aw185k trivial
def aw186D : CT cfz := .run 12 [] <| .use aw178 <| .run 1 [(.ck 0)] <| .use aw182 <| .run 1 [(.ck 1)] <| .run 6 [] <| .use aw184 <| .run 1 [(.ck 2)] <| .use aw93 <| .run 1 [(.ck 3)] <| .run 3 [] <| .use aw94 <| .run 1 [(.ck 4)] <| .run 1 [] <| .use aw54 <| .run 1 [(.ck 5)] <| .run 48 [] <| .use aw107 <| .run 1 [(.ck 6)] <| .run 28 [] <| .use aw108 <| .run 1 [(.ck 7)] <| .run 28 [] <| .use aw109 <| .run 1 [(.ck 8)] <| .run 28 [] <| .use aw185 <| .run 1 [(.ck 9)] <| .run 22 [] <|  .fin
theorem aw186k : crun cfz 115 aw186D [] (ent cfz 115 qa0) = some (qa191, [.eqA qa0 qa0, .eqA [(.fn (.func 168) [] [(.ip qa58), (.ip [(.v (.int .i64 2))]), (.ip [(.v (.int .i64 3))]), (.ip [(.v (.int .i64 0))])])] [(.fn (.func 168) [] [(.ip qa58), (.ip [(.v (.int .i64 2))]), (.ip [(.v (.int .i64 3))]), (.ip [(.v (.int .i64 0))])])], .eqA qa94 qa94, .eqA qa328 qa328, .eqA qa341 qa341, .eqA qa310 qa310, .eqA qa139 qa139, .eqA qa140 qa140, .eqA qa134 qa134, .eqA qa143 qa143]) := by kernel_rfl
theorem aw186 : PureCalls cfz.P cfz.glob 115 qa0 qa191 := closed_ok knil (by kernel_rfl) aw186k ⟨rfl, rfl, rfl, rfl, rfl, rfl, rfl, rfl, rfl, rfl, trivial⟩
def aw187D : CT cfz := .run 9 [] <| .use aw176 <| .use aw177 <| .use aw54 <| .run 1 [.none, (.ck 0), .none, (.ck 1), (.ck 2)] <| .run 13 [] <| .use aw186 <| .run 1 [(.ck 3)] <| .run 6 [] <|  .fin
theorem aw187k : crun cfz 25 aw187D [] (ent cfz 25 qa0) = some (qa191, [.eqA qa12 qa12, .eqA qa32 qa32, .eqA qa310 qa310, .eqA qa0 qa0]) := by kernel_rfl
theorem aw187 : PureCalls cfz.P cfz.glob 25 qa0 qa191 := closed_ok knil (by kernel_rfl) aw187k ⟨rfl, rfl, rfl, rfl, trivial⟩
def aw188D : CT cfz := .run 133 [] <|  .fin
theorem aw188k : crun cfz 65 aw188D [] (ent cfz 65 qa110) = some ((.d (.v (.bool true))), []) := by kernel_rfl
theorem aw188 : PureCalls cfz.P cfz.glob 65 qa110 (.d (.v (.bool true))) := closed_ok knil (by kernel_rfl) aw188k trivial
def aw189D : CT cfz := .run 109 [] <|  .fin
theorem aw189k : crun cfz 65 aw189D [] (ent cfz 65 qa128) = some ((.d (.v (.bool true))), []) := by kernel_rfl
theorem aw189 : PureCalls cfz.P cfz.glob 65 qa128 (.d (.v (.bool true))) := closed_ok knil (by kernel_rfl) aw189k trivial
def aw190D : CT cfz := .run 13 [] <|  .fin
theorem aw190k : crun cfz 99 aw190D [] (ent cfz 99 []) = some (qa103, []) := by kernel_rfl
theorem aw190 : PureCalls cfz.P cfz.glob 99 [] qa103 := closed_ok knil (by kernel_rfl) aw190k trivial
def aw191D : CT cfz := .run 14 [] <| .use aw1 <| .run 1 [(.ck 0)] <| .run 3 [] <|  .fin
theorem aw191k : crun cfz 106 aw191D [] (ent cfz 106 qa197) = some ((.d (.v (.int .i64 0))), [.eqA qa335 qa335]) := by kernel_rfl
theorem aw191 : PureCalls cfz.P cfz.glob 106 qa197 (.d (.v (.int .i64 0))) := closed_ok knil (by kernel_rfl) aw191k ⟨rfl, trivial⟩
def aw192D : CT cfz := .run 9 [] <| .use aw191 <| .run 1 [(.ck 0)] <| .run 3 [] <|  .fin
theorem aw192k : crun cfz 172 aw192D [] (ent cfz 172 qa190) = some ((.d (.v (.int .i64 0))), [.eqA qa197 qa197]) := by kernel_rfl
theorem aw192 : PureCalls cfz.P cfz.glob 172 qa190 (.d (.v (.int .i64 0))) := closed_ok knil (by kernel_rfl) aw192k ⟨rfl, trivial⟩
def aw193D : CT cfz := .run 14 [] <| .use aw1 <| .run 1 [(.ck 0)] <| .run 3 [] <|  .fin
theorem aw193k : crun cfz 106 aw193D [] (ent cfz 106 qa201) = some ((.d (.v (.int .i64 0))), [.eqA qa335 qa335]) := by kernel_rfl
theorem aw193 : PureCalls cfz.P cfz.glob 106 qa201 (.d (.v (.int .i64 0))) := closed_ok knil (by kernel_rfl) aw193k ⟨rfl, trivial⟩
def aw194D : CT cfz := .run 9 [] <| .use aw193 <| .run 1 [(.ck 0)] <| .run 3 [] <|  .fin
theorem aw194k : crun cfz 172 aw194D [] (ent cfz 172 qa192) = some ((.d (.v (.int .i64 0))), [.eqA qa201 qa201]) := by kernel_rfl
theorem aw194 : PureCalls cfz.P cfz.glob 172 qa192 (.d (.v (.int .i64 0))) := closed_ok knil (by kernel_rfl) aw194k ⟨rfl, trivial⟩
def aw195D : CT cfz := .run 14 [] <| .use aw1 <| .run 1 [(.ck 0)] <| .run 3 [] <|  .fin
theorem aw195k : crun cfz 106 aw195D [] (ent cfz 106 qa208) = some ((.d (.v (.int .i64 0))), [.eqA qa335 qa335]) := by kernel_rfl
theorem aw195 : PureCalls cfz.P cfz.glob 106 qa208 (.d (.v (.int .i64 0))) := closed_ok knil (by kernel_rfl) aw195k ⟨rfl, trivial⟩
def aw196D : CT cfz := .run 9 [] <| .use aw195 <| .run 1 [(.ck 0)] <| .run 3 [] <|  .fin
theorem aw196k : crun cfz 172 aw196D [] (ent cfz 172 qa193) = some ((.d (.v (.int .i64 0))), [.eqA qa208 qa208]) := by kernel_rfl
theorem aw196 : PureCalls cfz.P cfz.glob 172 qa193 (.d (.v (.int .i64 0))) := closed_ok knil (by kernel_rfl) aw196k ⟨rfl, trivial⟩
def aw198D : CT cfz := .run 10 [] <| .run 1 [.enter] <| .run 36 [] <| .use aw192 <| .run 1 [(.ck 0)] <| .run 29 [] <| .use aw194 <| .run 1 [(.ck 1)] <| .run 29 [] <| .use aw196 <| .run 1 [(.ck 2)] <| .run 24 [] <| .use aw6 <| .run 1 [(.ck 3)] <| .run 3 [] <|  .fin
theorem aw198k : crun cfz 126 aw198D [] (ent cfz 126 qa146) = some ((.d (.v (.int .i64 0))), [.eqA qa190 qa190, .eqA qa192 qa192, .eqA qa193 qa193, .eqA qa254 qa254]) := by kernel_rfl
theorem aw198 : PureCalls cfz.P cfz.glob 126 qa146 (.d (.v (.int .i64 0))) := closed_ok knil (by kernel_rfl) aw198k ⟨rfl, rfl, rfl, rfl, trivial⟩
def aw199D : CT cfz := .run 165 [] <|  .fin
theorem aw199k : crun cfz 107 aw199D [] (ent cfz 107 qa164) = some ((.d (.v (.int .i64 0))), []) := by kernel_rfl
theorem aw199 : PureCalls cfz.P cfz.glob 107 qa164 (.d (.v (.int .i64 0))) := closed_ok knil (by kernel_rfl) aw199k trivial
def aw200D : CT cfz := .run 16 [] <|  .fin
theorem aw200k : crun cfz 109 aw200D [] (ent cfz 109 qa343) = some ((.d (.v (.int .i64 0))), []) := by kernel_rfl
theorem aw200 : PureCalls cfz.P cfz.glob 109 qa343 (.d (.v (.int .i64 0))) := closed_ok knil (by kernel_rfl) aw200k trivial
def aw201D : CT cfz := .run 14 [] <| .use aw1 <| .run 1 [(.ck 0)] <| .run 3 [] <|  .fin
theorem aw201k : crun cfz 106 aw201D [] (ent cfz 106 qa226) = some ((.d (.v (.int .i64 0))), [.eqA qa335 qa335]) := by kernel_rfl
theorem aw201 : PureCalls cfz.P cfz.glob 106 qa226 (.d (.v (.int .i64 0))) := closed_ok knil (by kernel_rfl) aw201k ⟨rfl, trivial⟩
def aw202D : CT cfz := .run 9 [] <| .use aw201 <| .run 1 [(.ck 0)] <| .run 3 [] <|  .fin
theorem aw202k : crun cfz 172 aw202D [] (ent cfz 172 qa195) = some ((.d (.v (.int .i64 0))), [.eqA qa226 qa226]) := by kernel_rfl
theorem aw202 : PureCalls cfz.P cfz.glob 172 qa195 (.d (.v (.int .i64 0))) := closed_ok knil (by kernel_rfl) aw202k ⟨rfl, trivial⟩
def aw204D : CT cfz := .run 10 [] <| .run 1 [.enter] <| .run 36 [] <| .use aw202 <| .run 1 [(.ck 0)] <| .run 29 [] <| .run 1 [(.ck 0)] <| .run 29 [] <| .run 1 [(.ck 0)] <| .run 24 [] <| .use aw6 <| .run 1 [(.ck 1)] <| .run 3 [] <|  .fin
theorem aw204k : crun cfz 126 aw204D [] (ent cfz 126 qa150) = some ((.d (.v (.int .i64 0))), [.eqA qa195 qa195, .eqA qa195 qa195, .eqA qa195 qa195, .eqA qa254 qa254]) := by kernel_rfl
theorem aw204 : PureCalls cfz.P cfz.glob 126 qa150 (.d (.v (.int .i64 0))) := closed_ok knil (by kernel_rfl) aw204k ⟨rfl, rfl, rfl, rfl, trivial⟩
def aw205D : CT cfz := .run 14 [] <| .use aw1 <| .run 1 [(.ck 0)] <| .run 3 [] <|  .fin
theorem aw205k : crun cfz 106 aw205D [] (ent cfz 106 qa241) = some ((.d (.v (.int .i64 0))), [.eqA qa335 qa335]) := by kernel_rfl
theorem aw205 : PureCalls cfz.P cfz.glob 106 qa241 (.d (.v (.int .i64 0))) := closed_ok knil (by kernel_rfl) aw205k ⟨rfl, trivial⟩
def aw206D : CT cfz := .run 14 [] <| .use aw1 <| .run 1 [(.ck 0)] <| .run 3 [] <|  .fin
theorem aw206k : crun cfz 106 aw206D [] (ent cfz 106 qa223) = some ((.d (.v (.int .i64 0))), [.eqA qa335 qa335]) := by kernel_rfl
theorem aw206 : PureCalls cfz.P cfz.glob 106 qa223 (.d (.v (.int .i64 0))) := closed_ok knil (by kernel_rfl) aw206k ⟨rfl, trivial⟩
def aw207D : CT cfz := .run 8 [] <| .use aw11 <| .use aw12 <| .use aw198 <| .use aw199 <| .run 1 [.none, (.ck 0), .none, (.ck 1), .none, (.ck 2), .none, (.ck 0), .none, (.ck 1), (.ck 3)] <| .run 40 [] <| .use aw200 <| .run 1 [(.ck 4)] <| .run 1 [] <| .use aw204 <| .run 1 [(.ck 5)] <| .run 1 [] <| .use aw54 <| .run 1 [(.ck 6)] <| .run 25 [] <| .use aw205 <| .use aw206 <| .run 1 [.none, (.ck 7), .none, (.ck 8), (.ck 6)] <| .run 33 [] <|  .fin
theorem aw207k : crun cfz 82 aw207D [] (ent cfz 82 qa102) = some ((.d (.v (.int .i64 0))), [.eqA qa323 qa323, .eqA qa337 qa337, .eqA qa146 qa146, .eqA qa323 qa323, .eqA qa337 qa337, .eqA qa164 qa164, .eqA qa343 qa343, .eqA qa150 qa150, .eqA qa310 qa310, .eqA qa241 qa241, .eqA qa223 qa223, .eqA qa310 qa310]) := by kernel_rfl
theorem aw207 : PureCalls cfz.P cfz.glob 82 qa102 (.d (.v (.int .i64 0))) := closed_ok knil (by kernel_rfl) aw207k ⟨rfl, rfl, rfl, rfl, rfl, rfl, rfl, rfl, rfl, rfl, rfl, rfl, trivial⟩
def aw208D : CT cfz := .run 8 [] <| .use aw207 <| .run 1 [(.ck 0)] <| .run 9 [] <| .use aw39 <| .run 1 [(.ck 1)] <| .run 1 [] <| .use aw54 <| .run 1 [(.ck 2)] <| .run 3 [] <|  .fin
theorem aw208k : crun cfz 138 aw208D [] (ent cfz 138 qa100) = some ((.d (.v (.int .i64 0))), [.eqA qa102 qa102, .eqA qa326 qa326, .eqA qa310 qa310]) := by kernel_rfl
theorem aw208 : PureCalls cfz.P cfz.glob 138 qa100 (.d (.v (.int .i64 0))) := closed_ok knil (by kernel_rfl) aw208k ⟨rfl, rfl, rfl, trivial⟩
def aw209D : CT cfz := .run 14 [] <| .use aw1 <| .run 1 [(.ck 0)] <| .run 3 [] <|  .fin
theorem aw209k : crun cfz 106 aw209D [] (ent cfz 106 qa257) = some ((.d (.v (.int .i64 0))), [.eqA qa335 qa335]) := by kernel_rfl
theorem aw209 : PureCalls cfz.P cfz.glob 106 qa257 (.d (.v (.int .i64 0))) := closed_ok knil (by kernel_rfl) aw209k ⟨rfl, trivial⟩
def aw210D : CT cfz := .run 46 [] <|  .fin
theorem aw210k : crun cfz 139 aw210D [] (ent cfz 139 qa72) = some (qa303, []) := by kernel_rfl
theorem aw210 : PureCalls cfz.P cfz.glob 139 qa72 qa303 := closed_ok knil (by kernel_rfl) aw210k trivial
def aw211D : CT cfz := .run 16 [] <|  .fin
theorem aw211k : crun cfz 109 aw211D [] (ent cfz 109 qa344) = some ((.d (.v (.int .i64 0))), []) := by kernel_rfl
theorem aw211 : PureCalls cfz.P cfz.glob 109 qa344 (.d (.v (.int .i64 0))) := closed_ok knil (by kernel_rfl) aw211k trivial
def aw212D : CT cfz := .run 11 [] <| .use aw208 <| .run 1 [(.ck 0)] <| .run 9 [] <| .use aw39 <| .run 1 [(.ck 1)] <| .run 1 [] <| .use aw209 <| .run 1 [(.ck 2)] <| .run 1 [] <| .use aw6 <| .run 1 [(.ck 3)] <| .run 15 [] <| .use aw210 <| .run 1 [(.ck 4)] <| .run 11 [] <| .use aw211 <| .run 1 [(.ck 5)] <| .run 4 [] <|  .fin
theorem aw212k : crun cfz 73 aw212D [] (ent cfz 73 qa72) = some (qa295, [.eqA qa100 qa100, .eqA qa326 qa326, .eqA qa257 qa257, .eqA qa254 qa254, .eqA qa72 qa72, .eqA qa344 qa344]) := by kernel_rfl
theorem aw212 : PureCalls cfz.P cfz.glob 73 qa72 qa295 := closed_ok knil (by kernel_rfl) aw212k ⟨rfl, rfl, rfl, rfl, rfl, rfl, trivial⟩
def aw213D : CT cfz := .run 14 [] <| .use aw1 <| .run 1 [(.ck 0)] <| .run 3 [] <|  .fin
theorem aw213k : crun cfz 106 aw213D [] (ent cfz 106 qa258) = some ((.d (.v (.int .i64 0))), [.eqA qa335 qa335]) := by kernel_rfl
theorem aw213 : PureCalls cfz.P cfz.glob 106 qa258 (.d (.v (.int .i64 0))) := closed_ok knil (by kernel_rfl) aw213k ⟨rfl, trivial⟩
def aw214D : CT cfz := .run 46 [] <|  .fin
theorem aw214k : crun cfz 139 aw214D [] (ent cfz 139 qa73) = some (qa296, []) := by kernel_rfl
theorem aw214 : PureCalls cfz.P cfz.glob 139 qa73 qa296 := closed_ok knil (by kernel_rfl) aw214k trivial
def aw215D : CT cfz := .run 11 [] <| .use aw208 <| .run 1 [(.ck 0)] <| .run 9 [] <| .use aw39 <| .run 1 [(.ck 1)] <| .run 1 [] <| .use aw213 <| .run 1 [(.ck 2)] <| .run 1 [] <| .use aw6 <| .run 1 [(.ck 3)] <| .run 15 [] <| .use aw214 <| .run 1 [(.ck 4)] <| .run 11 [] <| .use aw211 <| .run 1 [(.ck 5)] <| .run 4 [] <|  .fin
theorem aw215k : crun cfz 73 aw215D [] (ent cfz 73 qa73) = some (qa287, [.eqA qa100 qa100, .eqA qa326 qa326, .eqA qa258 qa258, .eqA qa254 qa254, .eqA qa73 qa73, .eqA qa344 qa344]) := by kernel_rfl
theorem aw215 : PureCalls cfz.P cfz.glob 73 qa73 qa287 := closed_ok knil (by kernel_rfl) aw215k ⟨rfl, rfl, rfl, rfl, rfl, rfl, trivial⟩
def aw216D : CT cfz := .run 14 [] <| .use aw1 <| .run 1 [(.ck 0)] <| .run 3 [] <|  .fin
theorem aw216k : crun cfz 106 aw216D [] (ent cfz 106 qa259) = some ((.d (.v (.int .i64 0))), [.eqA qa335 qa335]) := by kernel_rfl
theorem aw216 : PureCalls cfz.P cfz.glob 106 qa259 (.d (.v (.int .i64 0))) := closed_ok knil (by kernel_rfl) aw216k ⟨rfl, trivial⟩
def aw217D : CT cfz := .run 39 [] <|  .fin
theorem aw217k : crun cfz 139 aw217D [] (ent cfz 139 qa74) = some (qa297, []) := by kernel_rfl
theorem aw217 : PureCalls cfz.P cfz.glob 139 qa74 qa297 := closed_ok knil (by kernel_rfl) aw217k trivial
def aw218D : CT cfz := .run 16 [] <|  .fin
theorem aw218k : crun cfz 109 aw218D [] (ent cfz 109 qa346) = some ((.d (.v (.int .i64 7))), []) := by kernel_rfl
theorem aw218 : PureCalls cfz.P cfz.glob 109 qa346 (.d (.v (.int .i64 7))) := closed_ok knil (by kernel_rfl) aw218k trivial
def aw219D : CT cfz := .run 11 [] <| .use aw208 <| .run 1 [(.ck 0)] <| .run 9 [] <| .use aw39 <| .run 1 [(.ck 1)] <| .run 1 [] <| .use aw216 <| .run 1 [(.ck 2)] <| .run 1 [] <| .use aw6 <| .run 1 [(.ck 3)] <| .run 15 [] <| .use aw217 <| .run 1 [(.ck 4)] <| .run 11 [] <| .use aw218 <| .run 1 [(.ck 5)] <| .run 4 [] <|  .fin
theorem aw219k : crun cfz 73 aw219D [] (ent cfz 73 qa74) = some (qa298, [.eqA qa100 qa100, .eqA qa326 qa326, .eqA qa259 qa259, .eqA qa254 qa254, .eqA qa74 qa74, .eqA qa346 qa346]) := by kernel_rfl
theorem aw219 : PureCalls cfz.P cfz.glob 73 qa74 qa298 := closed_ok knil (by kernel_rfl) aw219k ⟨rfl, rfl, rfl, rfl, rfl, rfl, trivial⟩
def aw220D : CT cfz := .run 22 [] <|  .fin
theorem aw220k : crun cfz 139 aw220D [] (ent cfz 139 qa75) = some (qa304, []) := by kernel_rfl
theorem aw220 : PureCalls cfz.P cfz.glob 139 qa75 qa304 := closed_ok knil (by kernel_rfl) aw220k trivial
def aw221D : CT cfz := .run 25 [] <|  .fin
theorem aw221k : crun cfz 158 aw221D [] (ent cfz 158 qa352) = some ((.d (.v (.int .i64 (-1)))), []) := by kernel_rfl
theorem aw221 : PureCalls cfz.P cfz.glob 158 qa352 (.d (.v (.int .i64 (-1)))) := closed_ok knil (by kernel_rfl) aw221k trivial
def aw222D : CT cfz := .run 8 [] <| .use aw221 <| .run 1 [(.ck 0)] <| .run 4 [] <|  .fin
theorem aw222k : crun cfz 157 aw222D [] (ent cfz 157 qa352) = some ((.d (.v (.bool false))), [.eqA qa352 qa352]) := by kernel_rfl
theorem aw222 : PureCalls cfz.P cfz.glob 157 qa352 (.d (.v (.bool false))) := closed_ok knil (by kernel_rfl) aw222k ⟨rfl, trivial⟩
def aw223D : CT cfz := .run 46 [] <|  .fin
theorem aw223k : crun cfz 139 aw223D [] (ent cfz 139 qa76) = some (qa305, []) := by kernel_rfl
theorem aw223 : PureCalls cfz.P cfz.glob 139 qa76 qa305 := closed_ok knil (by kernel_rfl) aw223k trivial
def aw224D : CT cfz := .run 46 [] <|  .fin
theorem aw224k : crun cfz 139 aw224D [] (ent cfz 139 qa77) = some (qa305, []) := by kernel_rfl
theorem aw224 : PureCalls cfz.P cfz.glob 139 qa77 qa305 := closed_ok knil (by kernel_rfl) aw224k trivial
def aw225D : CT cfz := .run 46 [] <|  .fin
theorem aw225k : crun cfz 139 aw225D [] (ent cfz 139 qa78) = some (qa305, []) := by kernel_rfl
theorem aw225 : PureCalls cfz.P cfz.glob 139 qa78 qa305 := closed_ok knil (by kernel_rfl) aw225k trivial
def aw226D : CT cfz := .run 46 [] <|  .fin
theorem aw226k : crun cfz 139 aw226D [] (ent cfz 139 qa79) = some (qa306, []) := by kernel_rfl
theorem aw226 : PureCalls cfz.P cfz.glob 139 qa79 qa306 := closed_ok knil (by kernel_rfl) aw226k trivial
def aw227D : CT cfz := .run 46 [] <|  .fin
theorem aw227k : crun cfz 139 aw227D [] (ent cfz 139 qa80) = some (qa307, []) := by kernel_rfl
theorem aw227 : PureCalls cfz.P cfz.glob 139 qa80 qa307 := closed_ok knil (by kernel_rfl) aw227k trivial
def aw228D : CT cfz := .run 36 [] <| .use aw220 <| .run 1 [(.ck 0)] <| .run 19 [] <| .use aw222 <| .run 1 [(.br true), (.ck 1)] <| .run 34 [] <| .use aw223 <| .run 1 [(.ck 2)] <| .run 19 [] <| .run 1 [(.br true), (.ck 1)] <| .run 34 [] <| .use aw224 <| .run 1 [(.ck 3)] <| .run 19 [] <| .run 1 [(.br true), (.ck 1)] <| .run 34 [] <| .use aw225 <| .run 1 [(.ck 4)] <| .run 19 [] <| .run 1 [(.br true), (.ck 1)] <| .run 34 [] <| .use aw226 <| .run 1 [(.ck 5)] <| .run 19 [] <| .run 1 [(.br true), (.ck 1)] <| .run 34 [] <| .use aw227 <| .run 1 [(.ck 6)] <| .run 19 [] <| .run 1 [(.br true), (.ck 1)] <| .run 34 [] <| .use aw210 <| .run 1 [(.ck 7)] <| .run 19 [] <| .run 1 [(.br true), (.ck 1)] <| .run 27 [] <|  .fin
theorem aw228k : crun cfz 142 aw228D [] (ent cfz 142 qa96) = some ((.d (.v (.int .i64 6))), [.eqA qa75 qa75, .eqA qa352 qa352, .eqA qa76 qa76, .eqA qa352 qa352, .eqA qa77 qa77, .eqA qa352 qa352, .eqA qa78 qa78, .eqA qa352 qa352, .eqA qa79 qa79, .eqA qa352 qa352, .eqA qa80 qa80, .eqA qa352 qa352, .eqA qa72 qa72, .eqA qa352 qa352]) := by kernel_rfl
theorem aw228 : PureCalls cfz.P cfz.glob 142 qa96 (.d (.v (.int .i64 6))) := closed_ok knil (by kernel_rfl) aw228k ⟨rfl, rfl, rfl, rfl, rfl, rfl, rfl, rfl, rfl, rfl, rfl, rfl, rfl, rfl, trivial⟩
def aw229D : CT cfz := .run 22 [] <|  .fin
theorem aw229k : crun cfz 139 aw229D [] (ent cfz 139 qa81) = some (qa304, []) := by kernel_rfl
theorem aw229 : PureCalls cfz.P cfz.glob 139 qa81 qa304 := closed_ok knil (by kernel_rfl) aw229k trivial
def aw230D : CT cfz := .run 25 [] <|  .fin
theorem aw230k : crun cfz 158 aw230D [] (ent cfz 158 qa353) = some ((.d (.v (.int .i64 (-1)))), []) := by kernel_rfl
theorem aw230 : PureCalls cfz.P cfz.glob 158 qa353 (.d (.v (.int .i64 (-1)))) := closed_ok knil (by kernel_rfl) aw230k trivial
def aw231D : CT cfz := .run 8 [] <| .use aw230 <| .run 1 [(.ck 0)] <| .run 4 [] <|  .fin
theorem aw231k : crun cfz 157 aw231D [] (ent cfz 157 qa353) = some ((.d (.v (.bool false))), [.eqA qa353 qa353]) := by kernel_rfl
theorem aw231 : PureCalls cfz.P cfz.glob 157 qa353 (.d (.v (.bool false))) := closed_ok knil (by kernel_rfl) aw231k ⟨rfl, trivial⟩
def aw232D : CT cfz := .run 46 [] <|  .fin
theorem aw232k : crun cfz 139 aw232D [] (ent cfz 139 qa82) = some (qa305, []) := by kernel_rfl
theorem aw232 : PureCalls cfz.P cfz.glob 139 qa82 qa305 := closed_ok knil (by kernel_rfl) aw232k trivial
def aw233D : CT cfz := .run 46 [] <|  .fin
theorem aw233k : crun cfz 139 aw233D [] (ent cfz 139 qa83) = some (qa308, []) := by kernel_rfl
theorem aw233 : PureCalls cfz.P cfz.glob 139 qa83 qa308 := closed_ok knil (by kernel_rfl) aw233k trivial
def aw234D : CT cfz := .run 46 [] <|  .fin
theorem aw234k : crun cfz 139 aw234D [] (ent cfz 139 qa84) = some (qa303, []) := by kernel_rfl
theorem aw234 : PureCalls cfz.P cfz.glob 139 qa84 qa303 := closed_ok knil (by kernel_rfl) aw234k trivial
def aw235D : CT cfz := .run 46 [] <|  .fin
theorem aw235k : crun cfz 139 aw235D [] (ent cfz 139 qa85) = some (qa299, []) := by kernel_rfl
theorem aw235 : PureCalls cfz.P cfz.glob 139 qa85 qa299 := closed_ok knil (by kernel_rfl) aw235k trivial
def aw236D : CT cfz := .run 46 [] <|  .fin
theorem aw236k : crun cfz 139 aw236D [] (ent cfz 139 qa86) = some (qa300, []) := by kernel_rfl
theorem aw236 : PureCalls cfz.P cfz.glob 139 qa86 qa300 := closed_ok knil (by kernel_rfl) aw236k trivial
def aw237D : CT cfz := .run 36 [] <| .use aw229 <| .run 1 [(.ck 0)] <| .run 19 [] <| .use aw231 <| .run 1 [(.br true), (.ck 1)] <| .run 34 [] <| .use aw232 <| .run 1 [(.ck 2)] <| .run 19 [] <| .run 1 [(.br true), (.ck 1)] <| .run 34 [] <| .use aw233 <| .run 1 [(.ck 3)] <| .run 19 [] <| .run 1 [(.br true), (.ck 1)] <| .run 34 [] <| .use aw234 <| .run 1 [(.ck 4)] <| .run 19 [] <| .run 1 [(.br true), (.ck 1)] <| .run 34 [] <| .use aw214 <| .run 1 [(.ck 5)] <| .run 19 [] <| .run 1 [(.br true), (.ck 1)] <| .run 34 [] <| .use aw235 <| .run 1 [(.ck 6)] <| .run 19 [] <| .run 1 [(.br false)] <| .run 31 [] <| .use aw236 <| .run 1 [(.ck 7)] <| .run 19 [] <| .run 1 [(.br false)] <| .run 24 [] <|  .fin
theorem aw237k : crun cfz 142 aw237D [] (ent cfz 142 qa97) = some ((.d (.v (.int .i64 4))), [.eqA qa81 qa81, .eqA qa353 qa353, .eqA qa82 qa82, .eqA qa353 qa353, .eqA qa83 qa83, .eqA qa353 qa353, .eqA qa84 qa84, .eqA qa353 qa353, .eqA qa73 qa73, .eqA qa353 qa353, .eqA qa85 qa85, .eqA qa86 qa86]) := by kernel_rfl
theorem aw237 : PureCalls cfz.P cfz.glob 142 qa97 (.d (.v (.int .i64 4))) := closed_ok knil (by kernel_rfl) aw237k ⟨rfl, rfl, rfl, rfl, rfl, rfl, rfl, rfl, rfl, rfl, rfl, rfl, trivial⟩
def aw238D : CT cfz := .run 22 [] <|  .fin
theorem aw238k : crun cfz 139 aw238D [] (ent cfz 139 qa87) = some (qa304, []) := by kernel_rfl
theorem aw238 : PureCalls cfz.P cfz.glob 139 qa87 qa304 := closed_ok knil (by kernel_rfl) aw238k trivial
def aw239D : CT cfz := .run 25 [] <|  .fin
theorem aw239k : crun cfz 158 aw239D [] (ent cfz 158 qa354) = some ((.d (.v (.int .i64 (-1)))), []) := by kernel_rfl
theorem aw239 : PureCalls cfz.P cfz.glob 158 qa354 (.d (.v (.int .i64 (-1)))) := closed_ok knil (by kernel_rfl) aw239k trivial
def aw240D : CT cfz := .run 8 [] <| .use aw239 <| .run 1 [(.ck 0)] <| .run 4 [] <|  .fin
theorem aw240k : crun cfz 157 aw240D [] (ent cfz 157 qa354) = some ((.d (.v (.bool false))), [.eqA qa354 qa354]) := by kernel_rfl
theorem aw240 : PureCalls cfz.P cfz.glob 157 qa354 (.d (.v (.bool false))) := closed_ok knil (by kernel_rfl) aw240k ⟨rfl, trivial⟩
def aw241D : CT cfz := .run 39 [] <|  .fin
theorem aw241k : crun cfz 139 aw241D [] (ent cfz 139 qa88) = some (qa297, []) := by kernel_rfl
theorem aw241 : PureCalls cfz.P cfz.glob 139 qa88 qa297 := closed_ok knil (by kernel_rfl) aw241k trivial
def aw242D : CT cfz := .run 39 [] <|  .fin
theorem aw242k : crun cfz 139 aw242D [] (ent cfz 139 qa89) = some (qa297, []) := by kernel_rfl
theorem aw242 : PureCalls cfz.P cfz.glob 139 qa89 qa297 := closed_ok knil (by kernel_rfl) aw242k trivial
def aw243D : CT cfz := .run 39 [] <|  .fin
theorem aw243k : crun cfz 139 aw243D [] (ent cfz 139 qa90) = some (qa297, []) := by kernel_rfl
theorem aw243 : PureCalls cfz.P cfz.glob 139 qa90 qa297 := closed_ok knil (by kernel_rfl) aw243k trivial
def aw244D : CT cfz := .run 39 [] <|  .fin
theorem aw244k : crun cfz 139 aw244D [] (ent cfz 139 qa91) = some (qa297, []) := by kernel_rfl
theorem aw244 : PureCalls cfz.P cfz.glob 139 qa91 qa297 := closed_ok knil (by kernel_rfl) aw244k trivial
def aw245D : CT cfz := .run 39 [] <|  .fin
theorem aw245k : crun cfz 139 aw245D [] (ent cfz 139 qa92) = some (qa297, []) := by kernel_rfl
theorem aw245 : PureCalls cfz.P cfz.glob 139 qa92 qa297 := closed_ok knil (by kernel_rfl) aw245k trivial
def aw246D : CT cfz := .run 36 [] <| .use aw238 <| .run 1 [(.ck 0)] <| .run 19 [] <| .use aw240 <| .run 1 [(.br true), (.ck 1)] <| .run 34 [] <| .use aw217 <| .run 1 [(.ck 2)] <| .run 19 [] <| .run 1 [(.br false)] <| .run 31 [] <| .use aw241 <| .run 1 [(.ck 3)] <| .run 19 [] <| .run 1 [(.br false)] <| .run 31 [] <| .use aw242 <| .run 1 [(.ck 4)] <| .run 19 [] <| .run 1 [(.br false)] <| .run 31 [] <| .use aw243 <| .run 1 [(.ck 5)] <| .run 19 [] <| .run 1 [(.br false)] <| .run 31 [] <| .use aw244 <| .run 1 [(.ck 6)] <| .run 19 [] <| .run 1 [(.br false)] <| .run 31 [] <| .use aw245 <| .run 1 [(.ck 7)] <| .run 19 [] <| .run 1 [(.br false)] <| .run 24 [] <|  .fin
theorem aw246k : crun cfz 142 aw246D [] (ent cfz 142 qa98) = some ((.d (.v (.int .i64 0))), [.eqA qa87 qa87, .eqA qa354 qa354, .eqA qa74 qa74, .eqA qa88 qa88, .eqA qa89 qa89, .eqA qa90 qa90, .eqA qa91 qa91, .eqA qa92 qa92]) := by kernel_rfl
theorem aw246 : PureCalls cfz.P cfz.glob 142 qa98 (.d (.v (.int .i64 0))) := closed_ok knil (by kernel_rfl) aw246k ⟨rfl, rfl, rfl, rfl, rfl, rfl, rfl, rfl, trivial⟩
def aw247D : CT cfz := .run 38 [] <| .use aw228 <| .run 1 [(.ck 0)] <| .run 29 [] <| .use aw237 <| .run 1 [(.ck 1)] <| .run 29 [] <| .use aw246 <| .run 1 [(.ck 2)] <| .run 23 [] <|  .fin
theorem aw247k : crun cfz 140 aw247D [] (ent cfz 140 qa100) = some (qa269, [.eqA qa96 qa96, .eqA qa97 qa97, .eqA qa98 qa98]) := by kernel_rfl
theorem aw247 : PureCalls cfz.P cfz.glob 140 qa100 qa269 := closed_ok knil (by kernel_rfl) aw247k ⟨rfl, rfl, rfl, trivial⟩
def aw248D : CT cfz := .run 11 [] <| .use aw208 <| .run 1 [(.ck 0)] <| .run 13 [] <| .use aw247 <| .run 1 [(.ck 1)] <| .run 4 [] <|  .fin
theorem aw248k : crun cfz 75 aw248D [] (ent cfz 75 qa100) = some (qa172, [.eqA qa100 qa100, .eqA qa100 qa100]) := by kernel_rfl
theorem aw248 : PureCalls cfz.P cfz.glob 75 qa100 qa172 := closed_ok knil (by kernel_rfl) aw248k ⟨rfl, rfl, trivial⟩
def aw249D : CT cfz := .run 14 [] <| .use aw1 <| .run 1 [(.ck 0)] <| .run 3 [] <|  .fin
theorem aw249k : crun cfz 106 aw249D [] (ent cfz 106 qa218) = some ((.d (.v (.int .i64 0))), [.eqA qa335 qa335]) := by kernel_rfl
theorem aw249 : PureCalls cfz.P cfz.glob 106 qa218 (.d (.v (.int .i64 0))) := closed_ok knil (by kernel_rfl) aw249k ⟨rfl, trivial⟩
def aw250D : CT cfz := .run 14 [] <| .use aw1 <| .run 1 [(.ck 0)] <| .run 3 [] <|  .fin
theorem aw250k : crun cfz 106 aw250D [] (ent cfz 106 qa224) = some ((.d (.v (.int .i64 0))), [.eqA qa335 qa335]) := by kernel_rfl
theorem aw250 : PureCalls cfz.P cfz.glob 106 qa224 (.d (.v (.int .i64 0))) := closed_ok knil (by kernel_rfl) aw250k ⟨rfl, trivial⟩
def aw251D : CT cfz := .run 11 [] <| .use aw208 <| .run 1 [(.ck 0)] <| .run 1 [] <| .use aw249 <| .run 1 [(.ck 1)] <| .run 1 [] <| .use aw250 <| .run 1 [(.ck 2)] <| .run 1 [] <| .use aw6 <| .run 1 [(.ck 3)] <| .run 50 [] <| .use aw228 <| .run 1 [(.ck 4)] <| .run 25 [] <| .use aw220 <| .run 1 [(.ck 5)] <| .run 43 [] <| .use aw223 <| .run 1 [(.ck 6)] <| .run 43 [] <| .use aw224 <| .run 1 [(.ck 7)] <| .run 43 [] <| .use aw225 <| .run 1 [(.ck 8)] <| .run 43 [] <| .use aw226 <| .run 1 [(.ck 9)] <| .run 43 [] <| .use aw227 <| .run 1 [(.ck 10)] <| .run 43 [] <| .use aw210 <| .run 1 [(.ck 11)] <| .run 66 [] <| .use aw237 <| .run 1 [(.ck 12)] <| .run 25 [] <| .use aw229 <| .run 1 [(.ck 13)] <| .run 43 [] <| .use aw232 <| .run 1 [(.ck 14)] <| .run 43 [] <| .use aw233 <| .run 1 [(.ck 15)] <| .run 43 [] <| .use aw234 <| .run 1 [(.ck 16)] <| .run 43 [] <| .use aw214 <| .run 1 [(.ck 17)] <| .run 66 [] <| .use aw246 <| .run 1 [(.ck 18)] <| .run 25 [] <| .use aw238 <| .run 1 [(.ck 19)] <| .run 56 [] <|  .fin
theorem aw251k : crun cfz 85 aw251D [] (ent cfz 85 qa70) = some (qa282, [.eqA qa100 qa100, .eqA qa218 qa218, .eqA qa224 qa224, .eqA qa254 qa254, .eqA qa96 qa96, .eqA qa75 qa75, .eqA qa76 qa76, .eqA qa77 qa77, .eqA qa78 qa78, .eqA qa79 qa79, .eqA qa80 qa80, .eqA qa72 qa72, .eqA qa97 qa97, .eqA qa81 qa81, .eqA qa82 qa82, .eqA qa83 qa83, .eqA qa84 qa84, .eqA qa73 qa73, .eqA qa98 qa98, .eqA qa87 qa87]) := by kernel_rfl
theorem aw251 : PureCalls cfz.P cfz.glob 85 qa70 qa282 := closed_ok knil (by kernel_rfl) aw251k ⟨rfl, rfl, rfl, rfl, rfl, rfl, rfl, rfl, rfl, rfl, rfl, rfl, rfl, rfl, rfl, rfl, rfl, rfl, rfl, rfl, trivial⟩
def aw252D : CT cfz := .run 14 [] <| .use aw1 <| .run 1 [(.ck 0)] <| .run 3 [] <|  .fin
theorem aw252k : crun cfz 106 aw252D [] (ent cfz 106 qa260) = some ((.d (.v (.int .i64 0))), [.eqA qa335 qa335]) := by kernel_rfl
theorem aw252 : PureCalls cfz.P cfz.glob 106 qa260 (.d (.v (.int .i64 0))) := closed_ok knil (by kernel_rfl) aw252k ⟨rfl, trivial⟩
def aw253D : CT cfz := .run 9 [] <| .use aw252 <| .run 1 [(.ck 0)] <| .run 3 [] <|  .fin
theorem aw253k : crun cfz 172 aw253D [] (ent cfz 172 qa227) = some ((.d (.v (.int .i64 0))), [.eqA qa260 qa260]) := by kernel_rfl
theorem aw253 : PureCalls cfz.P cfz.glob 172 qa227 (.d (.v (.int .i64 0))) := closed_ok knil (by kernel_rfl) aw253k ⟨rfl, trivial⟩
def aw254D : CT cfz := .run 9 [] <| .use aw216 <| .run 1 [(.ck 0)] <| .run 3 [] <|  .fin
theorem aw254k : crun cfz 172 aw254D [] (ent cfz 172 qa228) = some ((.d (.v (.int .i64 0))), [.eqA qa259 qa259]) := by kernel_rfl
theorem aw254 : PureCalls cfz.P cfz.glob 172 qa228 (.d (.v (.int .i64 0))) := closed_ok knil (by kernel_rfl) aw254k ⟨rfl, trivial⟩
def aw256D : CT cfz := .run 10 [] <| .run 1 [.enter] <| .run 36 [] <| .use aw253 <| .run 1 [(.ck 0)] <| .run 29 [] <| .use aw254 <| .run 1 [(.ck 1)] <| .run 24 [] <| .use aw54 <| .run 1 [(.ck 2)] <| .run 3 [] <|  .fin
theorem aw256k : crun cfz 126 aw256D [] (ent cfz 126 qa173) = some ((.d (.v (.int .i64 0))), [.eqA qa227 qa227, .eqA qa228 qa228, .eqA qa310 qa310]) := by kernel_rfl
theorem aw256 : PureCalls cfz.P cfz.glob 126 qa173 (.d (.v (.int .i64 0))) := closed_ok knil (by kernel_rfl) aw256k ⟨rfl, rfl, rfl, trivial⟩
def aw257D : CT cfz := .run 9 [] <| .use aw11 <| .run 1 [(.ck 0)] <| .run 3 [] <| .use aw12 <| .run 1 [(.ck 1)] <| .run 1 [] <| .use aw256 <| .run 1 [(.ck 2)] <| .run 1 [] <| .use aw6 <| .run 1 [(.ck 3)] <| .run 3 [] <|  .fin
theorem aw257k : crun cfz 169 aw257D [] (ent cfz 169 qa311) = some ((.d (.v (.int .i64 0))), [.eqA qa323 qa323, .eqA qa337 qa337, .eqA qa173 qa173, .eqA qa254 qa254]) := by kernel_rfl
theorem aw257 : PureCalls cfz.P cfz.glob 169 qa311 (.d (.v (.int .i64 0))) := closed_ok knil (by kernel_rfl) aw257k ⟨rfl, rfl, rfl, rfl, trivial⟩
def aw258D : CT cfz := .run 84 [] <|  .fin
theorem aw258k : crun cfz 170 aw258D [] (ent cfz 170 qa311) = some ((.d (.v (.int .i64 3))), []) := by kernel_rfl
theorem aw258 : PureCalls cfz.P cfz.glob 170 qa311 (.d (.v (.int .i64 3))) := closed_ok knil (by kernel_rfl) aw258k trivial
def aw259D : CT cfz := .run 7 [] <| .use aw257 <| .run 1 [(.ck 0)] <| .run 1 [] <| .use aw258 <| .run 1 [(.ck 1)] <| .run 1 [] <| .use aw5 <| .run 1 [(.ck 2)] <| .run 1 [] <| .use aw54 <| .run 1 [(.ck 3)] <| .run 3 [] <|  .fin
theorem aw259k : crun cfz 121 aw259D [] (ent cfz 121 qa311) = some ((.d (.v (.int .i64 0))), [.eqA qa311 qa311, .eqA qa311 qa311, .eqA qa336 qa336, .eqA qa310 qa310]) := by kernel_rfl
theorem aw259 : PureCalls cfz.P cfz.glob 121 qa311 (.d (.v (.int .i64 0))) := closed_ok knil (by kernel_rfl) aw259k ⟨rfl, rfl, rfl, rfl, trivial⟩
def aw260D : CT cfz := .run 71 [] <|  .fin
theorem aw260k : crun cfz 122 aw260D [] (ent cfz 122 qa380) = some ((.d (.v (.int .i64 3))), []) := by kernel_rfl
theorem aw260 : PureCalls cfz.P cfz.glob 122 qa380 (.d (.v (.int .i64 3))) := closed_ok knil (by kernel_rfl) aw260k trivial
def aw261D : CT cfz := .run 48 [] <|  .fin
theorem aw261k : crun cfz 122 aw261D [] (ent cfz 122 qa381) = some ((.d (.v (.int .i64 1))), []) := by kernel_rfl
theorem aw261 : PureCalls cfz.P cfz.glob 122 qa381 (.d (.v (.int .i64 1))) := closed_ok knil (by kernel_rfl) aw261k trivial
def aw262D : CT cfz := .run 71 [] <|  .fin
theorem aw262k : crun cfz 122 aw262D [] (ent cfz 122 qa382) = some ((.d (.v (.int .i64 2))), []) := by kernel_rfl
theorem aw262 : PureCalls cfz.P cfz.glob 122 qa382 (.d (.v (.int .i64 2))) := closed_ok knil (by kernel_rfl) aw262k trivial
def aw263D : CT cfz := .run 25 [] <|  .fin
theorem aw263k : crun cfz 122 aw263D [] (ent cfz 122 qa383) = some ((.d (.v (.int .i64 0))), []) := by kernel_rfl
theorem aw263 : PureCalls cfz.P cfz.glob 122 qa383 (.d (.v (.int .i64 0))) := closed_ok knil (by kernel_rfl) aw263k trivial
def aw264D : CT cfz := .run 9 [] <| .use aw259 <| .run 1 [(.ck 0)] <| .run 3 [] <| .use aw12 <| .run 1 [(.ck 1)] <| .run 1 [] <| .use aw54 <| .run 1 [(.ck 2)] <| .run 169 [] <| .use aw260 <| .run 1 [(.ck 3)] <| .run 93 [] <| .use aw261 <| .run 1 [(.ck 4)] <| .run 178 [] <| .use aw262 <| .run 1 [(.ck 5)] <| .run 76 [] <| .use aw263 <| .run 1 [(.ck 6)] <| .run 42 [] <|  .fin
theorem aw264k : crun cfz 32 aw264D [] (ent cfz 32 qa119) = some (qa133, [.eqA qa311 qa311, .eqA qa337 qa337, .eqA qa310 qa310, .eqA qa380 qa380, .eqA qa381 qa381, .eqA qa382 qa382, .eqA qa383 qa383]) := by kernel_rfl
theorem aw264 : PureCalls cfz.P cfz.glob 32 qa119 qa133 := closed_ok knil (by kernel_rfl) aw264k ⟨rfl, rfl, rfl, rfl, rfl, rfl, rfl, trivial⟩
def aw265D : CT cfz := .run 14 [] <| .use aw1 <| .run 1 [(.ck 0)] <| .run 3 [] <|  .fin
theorem aw265k : crun cfz 106 aw265D [] (ent cfz 106 qa261) = some ((.d (.v (.int .i64 0))), [.eqA qa335 qa335]) := by kernel_rfl
theorem aw265 : PureCalls cfz.P cfz.glob 106 qa261 (.d (.v (.int .i64 0))) := closed_ok knil (by kernel_rfl) aw265k ⟨rfl, trivial⟩
def aw266D : CT cfz := .run 14 [] <| .use aw1 <| .run 1 [(.ck 0)] <| .run 3 [] <|  .fin
theorem aw266k : crun cfz 106 aw266D [] (ent cfz 106 qa262) = some ((.d (.v (.int .i64 0))), [.eqA qa335 qa335]) := by kernel_rfl
theorem aw266 : PureCalls cfz.P cfz.glob 106 qa262 (.d (.v (.int .i64 0))) := closed_ok knil (by kernel_rfl) aw266k ⟨rfl, trivial⟩
def aw267D : CT cfz := .run 14 [] <| .use aw1 <| .run 1 [(.ck 0)] <| .run 3 [] <|  .fin
theorem aw267k : crun cfz 106 aw267D [] (ent cfz 106 qa263) = some ((.d (.v (.int .i64 0))), [.eqA qa335 qa335]) := by kernel_rfl
theorem aw267 : PureCalls cfz.P cfz.glob 106 qa263 (.d (.v (.int .i64 0))) := closed_ok knil (by kernel_rfl) aw267k ⟨rfl, trivial⟩
def aw268D : CT cfz := .run 14 [] <| .use aw1 <| .run 1 [(.ck 0)] <| .run 3 [] <|  .fin
theorem aw268k : crun cfz 106 aw268D [] (ent cfz 106 qa264) = some ((.d (.v (.int .i64 0))), [.eqA qa335 qa335]) := by kernel_rfl
theorem aw268 : PureCalls cfz.P cfz.glob 106 qa264 (.d (.v (.int .i64 0))) := closed_ok knil (by kernel_rfl) aw268k ⟨rfl, trivial⟩
def aw269D : CT cfz := .run 14 [] <| .use aw1 <| .run 1 [(.ck 0)] <| .run 3 [] <|  .fin
theorem aw269k : crun cfz 106 aw269D [] (ent cfz 106 qa242) = some ((.d (.v (.int .i64 0))), [.eqA qa335 qa335]) := by kernel_rfl
theorem aw269 : PureCalls cfz.P cfz.glob 106 qa242 (.d (.v (.int .i64 0))) := closed_ok knil (by kernel_rfl) aw269k ⟨rfl, trivial⟩
def aw270D : CT cfz := .run 16 [] <|  .fin
theorem aw270k : crun cfz 109 aw270D [] (ent cfz 109 qa329) = some ((.d (.v (.int .i64 0))), []) := by kernel_rfl
theorem aw270 : PureCalls cfz.P cfz.glob 109 qa329 (.d (.v (.int .i64 0))) := closed_ok knil (by kernel_rfl) aw270k trivial
def aw271D : CT cfz := .run 9 [] <| .use aw259 <| .run 1 [(.ck 0)] <| .run 3 [] <| .use aw12 <| .run 1 [(.ck 1)] <| .run 1 [] <| .use aw54 <| .run 1 [(.ck 2)] <| .run 83 [] <| .use aw265 <| .run 1 [(.ck 3)] <| .run 141 [] <| .use aw266 <| .run 1 [(.ck 4)] <| .run 151 [] <| .use aw267 <| .run 1 [(.ck 5)] <| .run 141 [] <| .use aw268 <| .run 1 [(.ck 6)] <| .run 101 [] <| .use aw269 <| .run 1 [(.ck 7)] <| .run 4 [] <| .use aw270 <| .run 1 [(.ck 8)] <| .run 1 [] <| .run 1 [(.ck 2)] <| .run 18 [] <|  .fin
theorem aw271k : crun cfz 34 aw271D [] (ent cfz 34 qa109) = some (qa144, [.eqA qa311 qa311, .eqA qa337 qa337, .eqA qa310 qa310, .eqA qa261 qa261, .eqA qa262 qa262, .eqA qa263 qa263, .eqA qa264 qa264, .eqA qa242 qa242, .eqA qa329 qa329, .eqA qa310 qa310]) := by kernel_rfl
theorem aw271 : PureCalls cfz.P cfz.glob 34 qa109 qa144 := closed_ok knil (by kernel_rfl) aw271k ⟨rfl, rfl, rfl, rfl, rfl, rfl, rfl, rfl, rfl, rfl, trivial⟩
def aw272D : CT cfz := .run 14 [] <| .use aw1 <| .run 1 [(.ck 0)] <| .run 3 [] <|  .fin
theorem aw272k : crun cfz 106 aw272D [] (ent cfz 106 qa243) = some ((.d (.v (.int .i64 0))), [.eqA qa335 qa335]) := by kernel_rfl
theorem aw272 : PureCalls cfz.P cfz.glob 106 qa243 (.d (.v (.int .i64 0))) := closed_ok knil (by kernel_rfl) aw272k ⟨rfl, trivial⟩
def aw273D : CT cfz := .run 9 [] <| .use aw272 <| .run 1 [(.ck 0)] <| .run 3 [] <|  .fin
theorem aw273k : crun cfz 172 aw273D [] (ent cfz 172 qa209) = some ((.d (.v (.int .i64 0))), [.eqA qa243 qa243]) := by kernel_rfl
theorem aw273 : PureCalls cfz.P cfz.glob 172 qa209 (.d (.v (.int .i64 0))) := closed_ok knil (by kernel_rfl) aw273k ⟨rfl, trivial⟩
def aw274D : CT cfz := .run 14 [] <| .use aw1 <| .run 1 [(.ck 0)] <| .run 3 [] <|  .fin
theorem aw274k : crun cfz 106 aw274D [] (ent cfz 106 qa244) = some ((.d (.v (.int .i64 0))), [.eqA qa335 qa335]) := by kernel_rfl
theorem aw274 : PureCalls cfz.P cfz.glob 106 qa244 (.d (.v (.int .i64 0))) := closed_ok knil (by kernel_rfl) aw274k ⟨rfl, trivial⟩
def aw275D : CT cfz := .run 9 [] <| .use aw274 <| .run 1 [(.ck 0)] <| .run 3 [] <|  .fin
theorem aw275k : crun cfz 172 aw275D [] (ent cfz 172 qa210) = some ((.d (.v (.int .i64 0))), [.eqA qa244 qa244]) := by kernel_rfl
theorem aw275 : PureCalls cfz.P cfz.glob 172 qa210 (.d (.v (.int .i64 0))) := closed_ok knil (by kernel_rfl) aw275k ⟨rfl, trivial⟩
def aw276D : CT cfz := .run 14 [] <| .use aw1 <| .run 1 [(.ck 0)] <| .run 3 [] <|  .fin
theorem aw276k : crun cfz 106 aw276D [] (ent cfz 106 qa229) = some ((.d (.v (.int .i64 0))), [.eqA qa335 qa335]) := by kernel_rfl
theorem aw276 : PureCalls cfz.P cfz.glob 106 qa229 (.d (.v (.int .i64 0))) := closed_ok knil (by kernel_rfl) aw276k ⟨rfl, trivial⟩
def aw277D : CT cfz := .run 9 [] <| .use aw276 <| .run 1 [(.ck 0)] <| .run 3 [] <|  .fin
theorem aw277k : crun cfz 172 aw277D [] (ent cfz 172 qa196) = some ((.d (.v (.int .i64 0))), [.eqA qa229 qa229]) := by kernel_rfl
theorem aw277 : PureCalls cfz.P cfz.glob 172 qa196 (.d (.v (.int .i64 0))) := closed_ok knil (by kernel_rfl) aw277k ⟨rfl, trivial⟩
def aw279D : CT cfz := .run 10 [] <| .run 1 [.enter] <| .run 36 [] <| .use aw273 <| .run 1 [(.ck 0)] <| .run 29 [] <| .use aw275 <| .run 1 [(.ck 1)] <| .run 29 [] <| .use aw277 <| .run 1 [(.ck 2)] <| .run 24 [] <| .use aw6 <| .run 1 [(.ck 3)] <| .run 3 [] <|  .fin
theorem aw279k : crun cfz 126 aw279D [] (ent cfz 126 qa151) = some ((.d (.v (.int .i64 0))), [.eqA qa209 qa209, .eqA qa210 qa210, .eqA qa196 qa196, .eqA qa254 qa254]) := by kernel_rfl
theorem aw279 : PureCalls cfz.P cfz.glob 126 qa151 (.d (.v (.int .i64 0))) := closed_ok knil (by kernel_rfl) aw279k ⟨rfl, rfl, rfl, rfl, trivial⟩
def aw281D : CT cfz := .run 10 [] <| .run 1 [.enter] <| .run 36 [] <| .use aw273 <| .run 1 [(.ck 0)] <| .run 29 [] <| .run 1 [(.ck 0)] <| .run 29 [] <| .use aw277 <| .run 1 [(.ck 1)] <| .run 24 [] <| .use aw6 <| .run 1 [(.ck 2)] <| .run 3 [] <|  .fin
theorem aw281k : crun cfz 126 aw281D [] (ent cfz 126 qa152) = some ((.d (.v (.int .i64 0))), [.eqA qa209 qa209, .eqA qa209 qa209, .eqA qa196 qa196, .eqA qa254 qa254]) := by kernel_rfl
theorem aw281 : PureCalls cfz.P cfz.glob 126 qa152 (.d (.v (.int .i64 0))) := closed_ok knil (by kernel_rfl) aw281k ⟨rfl, rfl, rfl, rfl, trivial⟩
def aw283D : CT cfz := .run 10 [] <| .run 1 [.enter] <| .run 36 [] <| .use aw275 <| .run 1 [(.ck 0)] <| .run 29 [] <| .use aw277 <| .run 1 [(.ck 1)] <| .run 29 [] <| .use aw273 <| .run 1 [(.ck 2)] <| .run 24 [] <| .use aw6 <| .run 1 [(.ck 3)] <| .run 3 [] <|  .fin
theorem aw283k : crun cfz 126 aw283D [] (ent cfz 126 qa153) = some ((.d (.v (.int .i64 0))), [.eqA qa210 qa210, .eqA qa196 qa196, .eqA qa209 qa209, .eqA qa254 qa254]) := by kernel_rfl
theorem aw283 : PureCalls cfz.P cfz.glob 126 qa153 (.d (.v (.int .i64 0))) := closed_ok knil (by kernel_rfl) aw283k ⟨rfl, rfl, rfl, rfl, trivial⟩
def aw284D : CT cfz := .run 11 [] <| .use aw11 <| .run 1 [(.ck 0)] <| .run 3 [] <| .use aw12 <| .run 1 [(.ck 1)] <| .run 1 [] <| .use aw54 <| .run 1 [(.ck 2)] <| .run 42 [] <| .use aw200 <| .run 1 [(.ck 3)] <| .run 3 [] <| .run 1 [(.ck 1)] <| .run 1 [] <| .use aw279 <| .run 1 [(.ck 4)] <| .run 1 [] <| .use aw6 <| .run 1 [(.ck 5)] <| .run 39 [] <| .run 1 [(.ck 3)] <| .run 3 [] <| .run 1 [(.ck 1)] <| .run 1 [] <| .use aw281 <| .run 1 [(.ck 6)] <| .run 1 [] <| .run 1 [(.ck 5)] <| .run 39 [] <| .run 1 [(.ck 3)] <| .run 3 [] <| .run 1 [(.ck 1)] <| .run 1 [] <| .use aw283 <| .run 1 [(.ck 7)] <| .run 1 [] <| .run 1 [(.ck 5)] <| .run 532 [] <|  .fin
theorem aw284k : crun cfz 44 aw284D [] (ent cfz 44 qa104) = some (qa170, [.eqA qa323 qa323, .eqA qa337 qa337, .eqA qa310 qa310, .eqA qa343 qa343, .eqA qa337 qa337, .eqA qa151 qa151, .eqA qa254 qa254, .eqA qa343 qa343, .eqA qa337 qa337, .eqA qa152 qa152, .eqA qa254 qa254, .eqA qa343 qa343, .eqA qa337 qa337, .eqA qa153 qa153, .eqA qa254 qa254]) := by kernel_rfl
theorem aw284 : PureCalls cfz.P cfz.glob 44 qa104 qa170 := closed_ok knil (by kernel_rfl) aw284k ⟨rfl, rfl, rfl, rfl, rfl, rfl, rfl, rfl, rfl, rfl, rfl, rfl, rfl, rfl, rfl, trivial⟩
def aw285D : CT cfz := .run 109 [] <|  .fin
theorem aw285k : crun cfz 65 aw285D [] (ent cfz 65 qa129) = some ((.d (.v (.bool true))), []) := by kernel_rfl
theorem aw285 : PureCalls cfz.P cfz.glob 65 qa129 (.d (.v (.bool true))) := closed_ok knil (by kernel_rfl) aw285k trivial
def aw286D : CT cfz := .run 109 [] <|  .fin
theorem aw286k : crun cfz 65 aw286D [] (ent cfz 65 qa130) = some ((.d (.v (.bool true))), []) := by kernel_rfl
theorem aw286 : PureCalls cfz.P cfz.glob 65 qa130 (.d (.v (.bool true))) := closed_ok knil (by kernel_rfl) aw286k trivial
def aw287D : CT cfz := .run 109 [] <|  .fin
theorem aw287k : crun cfz 65 aw287D [] (ent cfz 65 qa131) = some ((.d (.v (.bool true))), []) := by kernel_rfl
theorem aw287 : PureCalls cfz.P cfz.glob 65 qa131 (.d (.v (.bool true))) := closed_ok knil (by kernel_rfl) aw287k trivial
def aw288D : CT cfz := .run 259 [] <|  .fin
theorem aw288k : crun cfz 42 aw288D [] (ent cfz 42 qa105) = some ((.d (.v (.bool true))), []) := by kernel_rfl
theorem aw288 : PureCalls cfz.P cfz.glob 42 qa105 (.d (.v (.bool true))) := closed_ok knil (by kernel_rfl) aw288k trivial
def aw289D : CT cfz := .run 157 [] <|  .fin
theorem aw289k : crun cfz 43 aw289D [] (ent cfz 43 qa108) = some ((.d (.v (.bool true))), []) := by kernel_rfl
theorem aw289 : PureCalls cfz.P cfz.glob 43 qa108 (.d (.v (.bool true))) := closed_ok knil (by kernel_rfl) aw289k trivial
def aw290D : CT cfz := .run 109 [] <|  .fin
theorem aw290k : crun cfz 65 aw290D [] (ent cfz 65 qa126) = some ((.d (.v (.bool true))), []) := by kernel_rfl
theorem aw290 : PureCalls cfz.P cfz.glob 65 qa126 (.d (.v (.bool true))) := closed_ok knil (by kernel_rfl) aw290k trivial
def aw291D : CT cfz := .run 14 [] <| .use aw1 <| .run 1 [(.ck 0)] <| .run 3 [] <|  .fin
theorem aw291k : crun cfz 106 aw291D [] (ent cfz 106 qa230) = some ((.d (.v (.int .i64 0))), [.eqA qa335 qa335]) := by kernel_rfl
theorem aw291 : PureCalls cfz.P cfz.glob 106 qa230 (.d (.v (.int .i64 0))) := closed_ok knil (by kernel_rfl) aw291k ⟨rfl, trivial⟩
def aw293D : CT cfz := .run 10 [] <| .run 1 [.enter] <| .run 36 [] <| .use aw254 <| .run 1 [(.ck 0)] <| .run 24 [] <| .use aw9 <| .run 1 [(.ck 1)] <| .run 3 [] <|  .fin
theorem aw293k : crun cfz 126 aw293D [] (ent cfz 126 qa202) = some ((.d (.v (.int .i64 0))), [.eqA qa228 qa228, .eqA qa361 qa361]) := by kernel_rfl
theorem aw293 : PureCalls cfz.P cfz.glob 126 qa202 (.d (.v (.int .i64 0))) := closed_ok knil (by kernel_rfl) aw293k ⟨rfl, rfl, trivial⟩
def aw294D : CT cfz := .run 9 [] <| .use aw11 <| .run 1 [(.ck 0)] <| .run 3 [] <| .use aw12 <| .run 1 [(.ck 1)] <| .run 1 [] <| .use aw293 <| .run 1 [(.ck 2)] <| .run 1 [] <| .use aw6 <| .run 1 [(.ck 3)] <| .run 3 [] <|  .fin
theorem aw294k : crun cfz 169 aw294D [] (ent cfz 169 qa366) = some ((.d (.v (.int .i64 0))), [.eqA qa323 qa323, .eqA qa337 qa337, .eqA qa202 qa202, .eqA qa254 qa254]) := by kernel_rfl
theorem aw294 : PureCalls cfz.P cfz.glob 169 qa366 (.d (.v (.int .i64 0))) := closed_ok knil (by kernel_rfl) aw294k ⟨rfl, rfl, rfl, rfl, trivial⟩
def aw295D : CT cfz := .run 8 [] <| .use aw291 <| .run 1 [(.ck 0)] <| .run 1 [] <| .use aw294 <| .run 1 [(.ck 1)] <| .run 1 [] <| .use aw54 <| .run 1 [(.ck 2)] <| .run 19 [] <|  .fin
theorem aw295k : crun cfz 131 aw295D [] (ent cfz 131 qa246) = some ((.d (.v (.int .i64 0))), [.eqA qa230 qa230, .eqA qa366 qa366, .eqA qa310 qa310]) := by kernel_rfl
theorem aw295 : PureCalls cfz.P cfz.glob 131 qa246 (.d (.v (.int .i64 0))) := closed_ok knil (by kernel_rfl) aw295k ⟨rfl, rfl, rfl, trivial⟩
def aw296D : CT cfz := .run 13 [] <| .use aw295 <| .run 1 [(.ck 0)] <| .run 3 [] <|  .fin
theorem aw296k : crun cfz 55 aw296D [] (ent cfz 55 qa198) = some ((.d (.v (.int .i64 0))), [.eqA qa246 qa246]) := by kernel_rfl
theorem aw296 : PureCalls cfz.P cfz.glob 55 qa198 (.d (.v (.int .i64 0))) := closed_ok knil (by kernel_rfl) aw296k ⟨rfl, trivial⟩
def aw298D : CT cfz := .run 10 [] <| .run 1 [.enter] <| .run 36 [] <| .use aw253 <| .run 1 [(.ck 0)] <| .run 24 [] <| .use aw9 <| .run 1 [(.ck 1)] <| .run 3 [] <|  .fin
theorem aw298k : crun cfz 126 aw298D [] (ent cfz 126 qa203) = some ((.d (.v (.int .i64 0))), [.eqA qa227 qa227, .eqA qa361 qa361]) := by kernel_rfl
theorem aw298 : PureCalls cfz.P cfz.glob 126 qa203 (.d (.v (.int .i64 0))) := closed_ok knil (by kernel_rfl) aw298k ⟨rfl, rfl, trivial⟩
def aw299D : CT cfz := .run 9 [] <| .use aw11 <| .run 1 [(.ck 0)] <| .run 3 [] <| .use aw12 <| .run 1 [(.ck 1)] <| .run 1 [] <| .use aw298 <| .run 1 [(.ck 2)] <| .run 1 [] <| .use aw6 <| .run 1 [(.ck 3)] <| .run 3 [] <|  .fin
theorem aw299k : crun cfz 169 aw299D [] (ent cfz 169 qa367) = some ((.d (.v (.int .i64 0))), [.eqA qa323 qa323, .eqA qa337 qa337, .eqA qa203 qa203, .eqA qa254 qa254]) := by kernel_rfl
theorem aw299 : PureCalls cfz.P cfz.glob 169 qa367 (.d (.v (.int .i64 0))) := closed_ok knil (by kernel_rfl) aw299k ⟨rfl, rfl, rfl, rfl, trivial⟩
def aw300D : CT cfz := .run 11 [] <| .use aw200 <| .run 1 [(.ck 0)] <| .run 1 [] <| .use aw299 <| .run 1 [(.ck 1)] <| .run 1 [] <| .use aw54 <| .run 1 [(.ck 2)] <| .run 3 [] <|  .fin
theorem aw300k : crun cfz 127 aw300D [] (ent cfz 127 qa275) = some ((.d (.v (.int .i64 0))), [.eqA qa343 qa343, .eqA qa367 qa367, .eqA qa310 qa310]) := by kernel_rfl
theorem aw300 : PureCalls cfz.P cfz.glob 127 qa275 (.d (.v (.int .i64 0))) := closed_ok knil (by kernel_rfl) aw300k ⟨rfl, rfl, rfl, trivial⟩
def aw301D : CT cfz := .run 16 [] <|  .fin
theorem aw301k : crun cfz 109 aw301D [] (ent cfz 109 qa330) = some ((.d (.v (.int .i64 0))), []) := by kernel_rfl
theorem aw301 : PureCalls cfz.P cfz.glob 109 qa330 (.d (.v (.int .i64 0))) := closed_ok knil (by kernel_rfl) aw301k trivial
def aw302D : CT cfz := .run 16 [] <|  .fin
theorem aw302k : crun cfz 109 aw302D [] (ent cfz 109 qa331) = some ((.d (.v (.int .i64 0))), []) := by kernel_rfl
theorem aw302 : PureCalls cfz.P cfz.glob 109 qa331 (.d (.v (.int .i64 0))) := closed_ok knil (by kernel_rfl) aw302k trivial
def aw303D : CT cfz := .run 137 [] <|  .fin
theorem aw303k : crun cfz 107 aw303D [] (ent cfz 107 qa183) = some ((.d (.v (.int .i64 0))), []) := by kernel_rfl
theorem aw303 : PureCalls cfz.P cfz.glob 107 qa183 (.d (.v (.int .i64 0))) := closed_ok knil (by kernel_rfl) aw303k trivial
def aw304D : CT cfz := .run 23 [] <|  .fin
theorem aw304k : crun cfz 129 aw304D [] (ent cfz 129 qa366) = some (qa370, []) := by kernel_rfl
theorem aw304 : PureCalls cfz.P cfz.glob 129 qa366 qa370 := closed_ok knil (by kernel_rfl) aw304k trivial
def aw305D : CT cfz := .run 23 [] <|  .fin
theorem aw305k : crun cfz 129 aw305D [] (ent cfz 129 [(.d (.sl 0 []))]) = some ((.d (.sl 0 [])), []) := by kernel_rfl
theorem aw305 : PureCalls cfz.P cfz.glob 129 [(.d (.sl 0 []))] (.d (.sl 0 [])) := closed_ok knil (by kernel_rfl) aw305k trivial
def aw306D : CT cfz := .run 7 [] <| .use aw304 <| .use aw305 <| .run 1 [.none, .none, (.ck 0), .none, (.ck 1), .none] <| .run 1 [] <|  .fin
theorem aw306k : crun cfz 128 aw306D [] (ent cfz 128 qa198) = some (qa211, [.eqA qa366 qa366, .eqA [(.d (.sl 0 []))] [(.d (.sl 0 []))]]) := by kernel_rfl
theorem aw306 : PureCalls cfz.P cfz.glob 128 qa198 qa211 := closed_ok knil (by kernel_rfl) aw306k ⟨rfl, rfl, trivial⟩
def aw307D : CT cfz := .run 23 [] <|  .fin
theorem aw307k : crun cfz 129 aw307D [] (ent cfz 129 qa367) = some (qa371, []) := by kernel_rfl
theorem aw307 : PureCalls cfz.P cfz.glob 129 qa367 qa371 := closed_ok knil (by kernel_rfl) aw307k trivial
def aw308D : CT cfz := .run 9 [] <| .use aw296 <| .use aw300 <| .use aw301 <| .use aw302 <| .use aw303 <| .run 1 [.none, (.ck 0), .none, (.ck 1), .none, (.ck 2), .none, (.ck 3), (.ck 4)] <| .run 10 [] <| .use aw306 <| .run 1 [(.ck 5)] <| .run 6 [] <| .use aw307 <| .run 1 [(.ck 6)] <| .run 10 [] <|  .fin
theorem aw308k : crun cfz 47 aw308D [] (ent cfz 47 qa157) = some (qa147, [.eqA qa198 qa198, .eqA qa275 qa275, .eqA qa330 qa330, .eqA qa331 qa331, .eqA qa183 qa183, .eqA qa198 qa198, .eqA qa367 qa367]) := by kernel_rfl
theorem aw308 : PureCalls cfz.P cfz.glob 47 qa157 qa147 := closed_ok knil (by kernel_rfl) aw308k ⟨rfl, rfl, rfl, rfl, rfl, rfl, rfl, trivial⟩
def aw309D : CT cfz := .run 13 [] <| .use aw295 <| .run 1 [(.ck 0)] <| .run 3 [] <|  .fin
theorem aw309k : crun cfz 63 aw309D [] (ent cfz 63 qa198) = some ((.d (.v (.int .i64 0))), [.eqA qa246 qa246]) := by kernel_rfl
theorem aw309 : PureCalls cfz.P cfz.glob 63 qa198 (.d (.v (.int .i64 0))) := closed_ok knil (by kernel_rfl) aw309k ⟨rfl, trivial⟩
def aw310D : CT cfz := .run 14 [] <| .use aw1 <| .run 1 [(.ck 0)] <| .run 3 [] <|  .fin
theorem aw310k : crun cfz 106 aw310D [] (ent cfz 106 qa231) = some ((.d (.v (.int .i64 0))), [.eqA qa335 qa335]) := by kernel_rfl
theorem aw310 : PureCalls cfz.P cfz.glob 106 qa231 (.d (.v (.int .i64 0))) := closed_ok knil (by kernel_rfl) aw310k ⟨rfl, trivial⟩
def aw311D : CT cfz := .run 7 [] <| .use aw304 <| .use aw305 <| .run 1 [.none, .none, (.ck 0), .none, (.ck 1), .none] <| .run 1 [] <|  .fin
theorem aw311k : crun cfz 132 aw311D [] (ent cfz 132 qa198) = some (qa211, [.eqA qa366 qa366, .eqA [(.d (.sl 0 []))] [(.d (.sl 0 []))]]) := by kernel_rfl
theorem aw311 : PureCalls cfz.P cfz.glob 132 qa198 qa211 := closed_ok knil (by kernel_rfl) aw311k ⟨rfl, rfl, trivial⟩
def aw312D : CT cfz := .run 10 [] <| .use aw309 <| .use aw310 <| .use aw300 <| .use aw211 <| .use aw303 <| .run 1 [.none, (.ck 0), (.ck 1), .none, (.ck 2), .none, (.ck 3), (.ck 4)] <| .run 10 [] <| .use aw311 <| .run 1 [(.ck 5)] <| .run 24 [] <| .use aw307 <| .run 1 [(.ck 6)] <| .run 12 [] <|  .fin
theorem aw312k : crun cfz 57 aw312D [] (ent cfz 57 qa135) = some (qa120, [.eqA qa198 qa198, .eqA qa231 qa231, .eqA qa275 qa275, .eqA qa344 qa344, .eqA qa183 qa183, .eqA qa198 qa198, .eqA qa367 qa367]) := by kernel_rfl
theorem aw312 : PureCalls cfz.P cfz.glob 57 qa135 qa120 := closed_ok knil (by kernel_rfl) aw312k ⟨rfl, rfl, rfl, rfl, rfl, rfl, rfl, trivial⟩
def aw313D : CT cfz := .run 8 [] <| .use aw291 <| .run 1 [(.ck 0)] <| .run 1 [] <| .use aw294 <| .run 1 [(.ck 1)] <| .run 1 [] <| .use aw54 <| .run 1 [(.ck 2)] <| .run 18 [] <| .use aw300 <| .run 1 [(.ck 3)] <| .run 3 [] <|  .fin
theorem aw313k : crun cfz 131 aw313D [] (ent cfz 131 qa184) = some ((.d (.v (.int .i64 0))), [.eqA qa230 qa230, .eqA qa366 qa366, .eqA qa310 qa310, .eqA qa275 qa275]) := by kernel_rfl
theorem aw313 : PureCalls cfz.P cfz.glob 131 qa184 (.d (.v (.int .i64 0))) := closed_ok knil (by kernel_rfl) aw313k ⟨rfl, rfl, rfl, rfl, trivial⟩
def aw314D : CT cfz := .run 13 [] <| .use aw313 <| .run 1 [(.ck 0)] <| .run 3 [] <|  .fin
theorem aw314k : crun cfz 55 aw314D [] (ent cfz 55 qa174) = some ((.d (.v (.int .i64 0))), [.eqA qa184 qa184]) := by kernel_rfl
theorem aw314 : PureCalls cfz.P cfz.glob 55 qa174 (.d (.v (.int .i64 0))) := closed_ok knil (by kernel_rfl) aw314k ⟨rfl, trivial⟩
def aw315D : CT cfz := .run 7 [] <| .use aw304 <| .use aw307 <| .run 1 [.none, .none, (.ck 0), .none, (.ck 1), .none] <| .run 1 [] <|  .fin
theorem aw315k : crun cfz 128 aw315D [] (ent cfz 128 qa174) = some (qa175, [.eqA qa366 qa366, .eqA qa367 qa367]) := by kernel_rfl
theorem aw315 : PureCalls cfz.P cfz.glob 128 qa174 qa175 := closed_ok knil (by kernel_rfl) aw315k ⟨rfl, rfl, trivial⟩
def aw316D : CT cfz := .run 9 [] <| .use aw314 <| .use aw310 <| .use aw20 <| .use aw211 <| .use aw303 <| .run 1 [.none, (.ck 0), (.ck 1), .none, (.ck 2), .none, (.br true), (.br true), .none, (.br true), (.br true), .none, (.ck 3), (.ck 4)] <| .run 10 [] <| .use aw315 <| .run 1 [(.ck 5)] <| .run 17 [] <| .use aw307 <| .run 1 [(.ck 6)] <| .run 10 [] <|  .fin
theorem aw316k : crun cfz 49 aw316D [] (ent cfz 49 qa155) = some (qa161, [.eqA qa174 qa174, .eqA qa231 qa231, .eqA qa325 qa325, .eqA qa344 qa344, .eqA qa183 qa183, .eqA qa174 qa174, .eqA qa367 qa367]) := by kernel_rfl
theorem aw316 : PureCalls cfz.P cfz.glob 49 qa155 qa161 := closed_ok knil (by kernel_rfl) aw316k ⟨rfl, rfl, rfl, rfl, rfl, rfl, rfl, trivial⟩
def aw317D : CT cfz := .run 13 [] <| .use aw313 <| .run 1 [(.ck 0)] <| .run 3 [] <|  .fin
theorem aw317k : crun cfz 63 aw317D [] (ent cfz 63 qa174) = some ((.d (.v (.int .i64 0))), [.eqA qa184 qa184]) := by kernel_rfl
theorem aw317 : PureCalls cfz.P cfz.glob 63 qa174 (.d (.v (.int .i64 0))) := closed_ok knil (by kernel_rfl) aw317k ⟨rfl, trivial⟩
def aw318D : CT cfz := .run 16 [] <|  .fin
theorem aw318k : crun cfz 109 aw318D [] (ent cfz 109 qa332) = some ((.d (.v (.int .i64 0))), []) := by kernel_rfl
theorem aw318 : PureCalls cfz.P cfz.glob 109 qa332 (.d (.v (.int .i64 0))) := closed_ok knil (by kernel_rfl) aw318k trivial
def aw319D : CT cfz := .run 7 [] <| .use aw304 <| .use aw307 <| .run 1 [.none, .none, (.ck 0), .none, (.ck 1), .none] <| .run 1 [] <|  .fin
theorem aw319k : crun cfz 132 aw319D [] (ent cfz 132 qa174) = some (qa175, [.eqA qa366 qa366, .eqA qa367 qa367]) := by kernel_rfl
theorem aw319 : PureCalls cfz.P cfz.glob 132 qa174 qa175 := closed_ok knil (by kernel_rfl) aw319k ⟨rfl, rfl, trivial⟩
def aw320D : CT cfz := .run 10 [] <| .use aw317 <| .use aw310 <| .use aw318 <| .use aw211 <| .use aw303 <| .run 1 [.none, (.ck 0), (.ck 1), .none, (.ck 2), .none, (.br false), (.br false), (.br false), .none, (.br false), (.br false), (.br true), (.br true), .none, (.br true), (.br true), (.br false), .none, .none, (.ck 3), (.ck 4)] <| .run 10 [] <| .use aw319 <| .run 1 [(.ck 5)] <| .run 16 [] <| .use aw307 <| .run 1 [(.ck 6)] <| .run 5 [] <| .run 1 [.none, .none, (.ck 6), .none] <| .run 1 [] <|  .fin
theorem aw320k : crun cfz 59 aw320D [] (ent cfz 59 qa155) = some (qa127, [.eqA qa174 qa174, .eqA qa231 qa231, .eqA qa332 qa332, .eqA qa344 qa344, .eqA qa183 qa183, .eqA qa174 qa174, .eqA qa367 qa367, .eqA qa367 qa367]) := by kernel_rfl
theorem aw320 : PureCalls cfz.P cfz.glob 59 qa155 qa127 := closed_ok knil (by kernel_rfl) aw320k ⟨rfl, rfl, rfl, rfl, rfl, rfl, rfl, rfl, trivial⟩
def aw321D : CT cfz := .run 8 [] <| .use aw310 <| .run 1 [(.ck 0)] <| .run 1 [] <| .use aw299 <| .run 1 [(.ck 1)] <| .run 1 [] <| .use aw54 <| .run 1 [(.ck 2)] <| .run 19 [] <|  .fin
theorem aw321k : crun cfz 131 aw321D [] (ent cfz 131 qa247) = some ((.d (.v (.int .i64 0))), [.eqA qa231 qa231, .eqA qa367 qa367, .eqA qa310 qa310]) := by kernel_rfl
theorem aw321 : PureCalls cfz.P cfz.glob 131 qa247 (.d (.v (.int .i64 0))) := closed_ok knil (by kernel_rfl) aw321k ⟨rfl, rfl, rfl, trivial⟩
def aw322D : CT cfz := .run 13 [] <| .use aw321 <| .run 1 [(.ck 0)] <| .run 3 [] <|  .fin
theorem aw322k : crun cfz 63 aw322D [] (ent cfz 63 qa199) = some ((.d (.v (.int .i64 0))), [.eqA qa247 qa247]) := by kernel_rfl
theorem aw322 : PureCalls cfz.P cfz.glob 63 qa199 (.d (.v (.int .i64 0))) := closed_ok knil (by kernel_rfl) aw322k ⟨rfl, trivial⟩
def aw323D : CT cfz := .run 16 [] <|  .fin
theorem aw323k : crun cfz 109 aw323D [] (ent cfz 109 qa345) = some ((.d (.v (.int .i64 35))), []) := by kernel_rfl
theorem aw323 : PureCalls cfz.P cfz.glob 109 qa345 (.d (.v (.int .i64 35))) := closed_ok knil (by kernel_rfl) aw323k trivial
def aw324D : CT cfz := .run 96 [] <|  .fin
theorem aw324k : crun cfz 107 aw324D [] (ent cfz 107 qa182) = some ((.d (.v (.int .i64 35))), []) := by kernel_rfl
theorem aw324 : PureCalls cfz.P cfz.glob 107 qa182 (.d (.v (.int .i64 35))) := closed_ok knil (by kernel_rfl) aw324k trivial
def aw325D : CT cfz := .run 10 [] <| .use aw322 <| .use aw291 <| .use aw323 <| .use aw211 <| .use aw324 <| .run 1 [.none, (.ck 0), (.ck 1), .none, (.ck 2), .none, (.br false), (.br false), (.br false), .none, (.br false), (.br false), (.br false), (.br false), (.br false), (.br false), (.br false), .none, .none, (.ck 3), (.ck 4)] <| .run 15 [] <|  .fin
theorem aw325k : crun cfz 59 aw325D [] (ent cfz 59 qa169) = some (qa162, [.eqA qa199 qa199, .eqA qa230 qa230, .eqA qa345 qa345, .eqA qa344 qa344, .eqA qa182 qa182]) := by kernel_rfl
theorem aw325 : PureCalls cfz.P cfz.glob 59 qa169 qa162 := closed_ok knil (by kernel_rfl) aw325k ⟨rfl, rfl, rfl, rfl, rfl, trivial⟩
def aw326D : CT cfz := .run 11 [] <| .use aw200 <| .run 1 [(.ck 0)] <| .run 1 [] <| .use aw299 <| .run 1 [(.ck 1)] <| .run 1 [] <| .use aw54 <| .run 1 [(.ck 2)] <| .run 3 [] <|  .fin
theorem aw326k : crun cfz 127 aw326D [] (ent cfz 127 qa276) = some ((.d (.v (.int .i64 0))), [.eqA qa343 qa343, .eqA qa367 qa367, .eqA qa310 qa310]) := by kernel_rfl
theorem aw326 : PureCalls cfz.P cfz.glob 127 qa276 (.d (.v (.int .i64 0))) := closed_ok knil (by kernel_rfl) aw326k ⟨rfl, rfl, rfl, trivial⟩
def aw327D : CT cfz := .run 7 [] <| .use aw307 <| .use aw305 <| .run 1 [.none, .none, (.ck 0), .none, (.ck 1), .none] <| .run 1 [] <|  .fin
theorem aw327k : crun cfz 132 aw327D [] (ent cfz 132 qa199) = some (qa212, [.eqA qa367 qa367, .eqA [(.d (.sl 0 []))] [(.d (.sl 0 []))]]) := by kernel_rfl
theorem aw327 : PureCalls cfz.P cfz.glob 132 qa199 qa212 := closed_ok knil (by kernel_rfl) aw327k ⟨rfl, rfl, trivial⟩
def aw328D : CT cfz := .run 10 [] <| .use aw322 <| .use aw310 <| .use aw326 <| .use aw211 <| .use aw303 <| .run 1 [.none, (.ck 0), (.ck 1), .none, (.ck 2), .none, (.ck 3), (.ck 4)] <| .run 10 [] <| .use aw327 <| .run 1 [(.ck 5)] <| .run 16 [] <|  .fin
theorem aw328k : crun cfz 57 aw328D [] (ent cfz 57 qa136) = some (qa145, [.eqA qa199 qa199, .eqA qa231 qa231, .eqA qa276 qa276, .eqA qa344 qa344, .eqA qa183 qa183, .eqA qa199 qa199]) := by kernel_rfl
theorem aw328 : PureCalls cfz.P cfz.glob 57 qa136 qa145 := closed_ok knil (by kernel_rfl) aw328k ⟨rfl, rfl, rfl, rfl, rfl, rfl, trivial⟩
def aw329D : CT cfz := .run 19 [] <| .use aw8 <| .run 1 [(.ck 0)] <| .use aw9 <| .run 1 [(.ck 1)] <| .run 3 [] <|  .fin
theorem aw329k : crun cfz 108 aw329D [] (ent cfz 108 qa64) = some ((.d (.v (.int .i64 0))), [.eqA qa178 qa178, .eqA qa361 qa361]) := by kernel_rfl
theorem aw329 : PureCalls cfz.P cfz.glob 108 qa64 (.d (.v (.int .i64 0))) := closed_ok knil (by kernel_rfl) aw329k ⟨rfl, rfl, trivial⟩
def aw330D : CT cfz := .run 38 [] <| .use aw16 <| .run 1 [(.ck 0)] <| .run 3 [] <|  .fin
theorem aw330k : crun cfz 111 aw330D [] (ent cfz 111 qa67) = some ((.d (.v (.int .i64 0))), [.eqA qa324 qa324]) := by kernel_rfl
theorem aw330 : PureCalls cfz.P cfz.glob 111 qa67 (.d (.v (.int .i64 0))) := closed_ok knil (by kernel_rfl) aw330k ⟨rfl, trivial⟩
def aw331D : CT cfz := .run 19 [] <|  .fin
theorem aw331k : crun cfz 112 aw331D [] (ent cfz 112 qa67) = some ((.d (.v (.bool true))), []) := by kernel_rfl
theorem aw331 : PureCalls cfz.P cfz.glob 112 qa67 (.d (.v (.bool true))) := closed_ok knil (by kernel_rfl) aw331k trivial
def aw332D : CT cfz := .run 14 [] <| .use aw1 <| .run 1 [(.ck 0)] <| .run 3 [] <|  .fin
theorem aw332k : crun cfz 106 aw332D [] (ent cfz 106 qa232) = some ((.d (.v (.int .i64 0))), [.eqA qa335 qa335]) := by kernel_rfl
theorem aw332 : PureCalls cfz.P cfz.glob 106 qa232 (.d (.v (.int .i64 0))) := closed_ok knil (by kernel_rfl) aw332k ⟨rfl, trivial⟩
def aw333D : CT cfz := .run 7 [] <| .use aw4 <| .use aw332 <| .use aw5 <| .use aw6 <| .run 1 [.none, (.ck 0), .none, (.ck 1), .none, (.ck 2), (.ck 3)] <| .run 1 [] <|  .fin
theorem aw333k : crun cfz 162 aw333D [] (ent cfz 162 qa279) = some ((.d (.v (.int .i64 0))), [.eqA qa239 qa239, .eqA qa232 qa232, .eqA qa336 qa336, .eqA qa254 qa254]) := by kernel_rfl
theorem aw333 : PureCalls cfz.P cfz.glob 162 qa279 (.d (.v (.int .i64 0))) := closed_ok knil (by kernel_rfl) aw333k ⟨rfl, rfl, rfl, rfl, trivial⟩
def aw334D : CT cfz := .run 37 [] <| .use aw333 <| .run 1 [(.ck 0)] <| .run 23 [] <|  .fin
theorem aw334k : crun cfz 161 aw334D [] (ent cfz 161 qa177) = some (qa369, [.eqA qa279 qa279]) := by kernel_rfl
theorem aw334 : PureCalls cfz.P cfz.glob 161 qa177 qa369 := closed_ok knil (by kernel_rfl) aw334k ⟨rfl, trivial⟩
def aw335D : CT cfz := .run 19 [] <| .use aw334 <| .run 1 [(.ck 0)] <| .use aw9 <| .run 1 [(.ck 1)] <| .run 3 [] <|  .fin
theorem aw335k : crun cfz 108 aw335D [] (ent cfz 108 qa63) = some ((.d (.v (.int .i64 0))), [.eqA qa177 qa177, .eqA qa361 qa361]) := by kernel_rfl
theorem aw335 : PureCalls cfz.P cfz.glob 108 qa63 (.d (.v (.int .i64 0))) := closed_ok knil (by kernel_rfl) aw335k ⟨rfl, rfl, trivial⟩
def aw336D : CT cfz := .run 10 [] <| .use aw2 <| .run 1 [(.ck 0)] <| .run 12 [] <| .use aw329 <| .use aw11 <| .use aw12 <| .use aw6 <| .run 1 [.none, .none, (.ck 1), .none, (.ck 2), .none, (.ck 3), (.ck 4)] <| .run 43 [] <| .use aw13 <| .use aw14 <| .use aw15 <| .use aw330 <| .run 1 [.none, (.ck 5), (.ck 6), .none, .none, (.ck 7), .none, (.ck 8), (.ck 4)] <| .run 64 [] <| .use aw331 <| .use aw39 <| .use aw43 <| .use aw335 <| .run 1 [.none, .none, (.ck 9), (.ck 10), .none, (.ck 11), .none, .none, (.ck 12), (.ck 4)] <| .run 25 [] <|  .fin
theorem aw336k : crun cfz 23 aw336D [] (ent cfz 23 qa68) = some ((.d (.v (.int .i64 0))), [.eqA qa253 qa253, .eqA qa64 qa64, .eqA qa323 qa323, .eqA qa337 qa337, .eqA qa254 qa254, .eqA qa360 qa360, .eqA qa338 qa338, .eqA qa339 qa339, .eqA qa67 qa67, .eqA qa254 qa254, .eqA qa67 qa67, .eqA qa326 qa326, .eqA qa355 qa355, .eqA qa63 qa63, .eqA qa254 qa254]) := by kernel_rfl
theorem aw336 : PureCalls cfz.P cfz.glob 23 qa68 (.d (.v (.int .i64 0))) := closed_ok knil (by kernel_rfl) aw336k ⟨rfl, rfl, rfl, rfl, rfl, rfl, rfl, rfl, rfl, rfl, rfl, rfl, rfl, rfl, rfl, trivial⟩
def aw337D : CT cfz := .run 20 [] <|  .fin
theorem aw337k : crun cfz 208 aw337D [] (ent cfz 208 qa381) = some (qa372, []) := by kernel_rfl
theorem aw337 : PureCalls cfz.P cfz.glob 208 qa381 qa372 := closed_ok knil (by kernel_rfl) aw337k trivial
def aw338D : CT cfz := .run 25 [] <| .use aw337 <| .run 1 [(.ck 0)] <| .run 3 [] <|  .fin
theorem aw338k : crun cfz 201 aw338D [] (ent cfz 201 qa333) = some (qa372, [.eqA qa381 qa381]) := by kernel_rfl
theorem aw338 : PureCalls cfz.P cfz.glob 201 qa333 qa372 := closed_ok knil (by kernel_rfl) aw338k ⟨rfl, trivial⟩
def aw339D : CT cfz := .run 7 [] <| .use aw338 <| .run 1 [(.ck 0)] <| .run 3 [] <|  .fin
theorem aw339k : crun cfz 184 aw339D [] (ent cfz 184 qa381) = some (qa372, [.eqA qa333 qa333]) := by kernel_rfl
theorem aw339 : PureCalls cfz.P cfz.glob 184 qa381 qa372 := closed_ok knil (by kernel_rfl) aw339k ⟨rfl, trivial⟩
def aw340D : CT cfz := .run 7 [] <| .use aw339 <| .run 1 [(.ck 0)] <| .run 3 [] <|  .fin
theorem aw340k : crun cfz 150 aw340D [] (ent cfz 150 qa381) = some (qa372, [.eqA qa381 qa381]) := by kernel_rfl
theorem aw340 : PureCalls cfz.P cfz.glob 150 qa381 qa372 := closed_ok knil (by kernel_rfl) aw340k ⟨rfl, trivial⟩
def aw341D : CT cfz := .run 20 [] <|  .fin
theorem aw341k : crun cfz 208 aw341D [] (ent cfz 208 qa383) = some (qa373, []) := by kernel_rfl
theorem aw341 : PureCalls cfz.P cfz.glob 208 qa383 qa373 := closed_ok knil (by kernel_rfl) aw341k trivial
def aw342D : CT cfz := .run 25 [] <| .use aw341 <| .run 1 [(.ck 0)] <| .run 3 [] <|  .fin
theorem aw342k : crun cfz 201 aw342D [] (ent cfz 201 qa334) = some (qa373, [.eqA qa383 qa383]) := by kernel_rfl
theorem aw342 : PureCalls cfz.P cfz.glob 201 qa334 qa373 := closed_ok knil (by kernel_rfl) aw342k ⟨rfl, trivial⟩
def aw343D : CT cfz := .run 7 [] <| .use aw342 <| .run 1 [(.ck 0)] <| .run 3 [] <|  .fin
theorem aw343k : crun cfz 184 aw343D [] (ent cfz 184 qa383) = some (qa373, [.eqA qa334 qa334]) := by kernel_rfl
theorem aw343 : PureCalls cfz.P cfz.glob 184 qa383 qa373 := closed_ok knil (by kernel_rfl) aw343k ⟨rfl, trivial⟩
def aw344D : CT cfz := .run 7 [] <| .use aw343 <| .run 1 [(.ck 0)] <| .run 3 [] <|  .fin
theorem aw344k : crun cfz 150 aw344D [] (ent cfz 150 qa383) = some (qa373, [.eqA qa383 qa383]) := by kernel_rfl
theorem aw344 : PureCalls cfz.P cfz.glob 150 qa383 qa373 := closed_ok knil (by kernel_rfl) aw344k ⟨rfl, trivial⟩
def aw345D : CT cfz := .run 23 [] <| .use jn1 <| .run 1 [(.ck 0)] <| .run 4 [] <|  .fin
theorem aw345k : crun cfz 149 aw345D [] (ent cfz 149 qa117) = some (qa245, [.eqA qa112 qa112]) := by kernel_rfl
theorem aw345 : PureCalls cfz.P cfz.glob 149 qa117 qa245 := closed_ok knil (by kernel_rfl) aw345k ⟨rfl, trivial⟩
def aw346D : CT cfz := .run 39 [] <|  .fin
theorem aw346k : crun cfz 197 aw346D [] (ent cfz 197 qa384) = some ((.d (.v (.int .i64 2))), []) := by kernel_rfl
theorem aw346 : PureCalls cfz.P cfz.glob 197 qa384 (.d (.v (.int .i64 2))) := closed_ok knil (by kernel_rfl) aw346k trivial
def aw347D : CT cfz := .run 12 [] <|  .fin
theorem aw347k : crun cfz 214 aw347D [] (ent cfz 214 qa380) = some ((.d (.v (.int .i64 0))), []) := by kernel_rfl
theorem aw347 : PureCalls cfz.P cfz.glob 214 qa380 (.d (.v (.int .i64 0))) := closed_ok knil (by kernel_rfl) aw347k trivial
def aw348D : CT cfz := .run 15 [] <|  .fin
theorem aw348k : crun cfz 215 aw348D [] (ent cfz 215 [(.d (.v (.bool true)))]) = some ((.d (.v (.int .i64 1))), []) := by kernel_rfl
theorem aw348 : PureCalls cfz.P cfz.glob 215 [(.d (.v (.bool true)))] (.d (.v (.int .i64 1))) := closed_ok knil (by kernel_rfl) aw348k trivial
def aw349D : CT cfz := .run 7 [] <| .use aw346 <| .run 1 [(.ck 0)] <| .use aw347 <| .run 1 [(.ck 1)] <| .run 10 [] <| .use aw348 <| .run 1 [(.ck 2)] <| .run 4 [] <|  .fin
theorem aw349k : crun cfz 209 aw349D [] (ent cfz 209 qa384) = some ((.d (.v (.int .i64 1))), [.eqA qa384 qa384, .eqA qa380 qa380, .eqA [(.d (.v (.bool true)))] [(.d (.v (.bool true)))]]) := by kernel_rfl
theorem aw349 : PureCalls cfz.P cfz.glob 209 qa384 (.d (.v (.int .i64 1))) := closed_ok knil (by kernel_rfl) aw349k ⟨rfl, rfl, rfl, trivial⟩
def aw350D : CT cfz := .run 48 [] <| .use aw349 <| .run 1 [(.ck 0)] <| .run 8 [] <| .run 1 [.enter] <| .run 77 [] <|  .fin
theorem aw350k : crun cfz 201 aw350D [] (ent cfz 201 qa312) = some (qa359, [.eqA qa384 qa384]) := by kernel_rfl
theorem aw350 : PureCalls cfz.P cfz.glob 201 qa312 qa359 := closed_ok knil (by kernel_rfl) aw350k ⟨rfl, trivial⟩
def aw351D : CT cfz := .run 7 [] <| .use aw350 <| .run 1 [(.ck 0)] <| .run 3 [] <|  .fin
theorem aw351k : crun cfz 184 aw351D [] (ent cfz 184 qa379) = some (qa359, [.eqA qa312 qa312]) := by kernel_rfl
theorem aw351 : PureCalls cfz.P cfz.glob 184 qa379 qa359 := closed_ok knil (by kernel_rfl) aw351k ⟨rfl, trivial⟩
def aw352D : CT cfz := .run 7 [] <| .use aw351 <| .run 1 [(.ck 0)] <| .run 3 [] <|  .fin
theorem aw352k : crun cfz 150 aw352D [] (ent cfz 150 qa379) = some (qa359, [.eqA qa379 qa379]) := by kernel_rfl
theorem aw352 : PureCalls cfz.P cfz.glob 150 qa379 qa359 := closed_ok knil (by kernel_rfl) aw352k ⟨rfl, trivial⟩
def aw353D : CT cfz := .run 10 [] <| .use aw336 <| .run 1 [(.ck 0)] <| .run 15 [] <| .use aw340 <| .run 1 [.none, (.ck 1), .none, .enter] <| .run 30 [] <| .use aw344 <| .run 1 [.none, (.ck 2), .none, (.ck 1), .none] <| .run 16 [] <| .use jn0 <| .run 1 [(.ck 3)] <| .run 14 [] <| .run 1 [.enter] <| .run 13 [] <| .run 1 [.extN] <| .run 16 [] <| .run 1 [.mg] <| .run 41 [] <| .use aw345 <| .run 1 [.none, .none, (.ck 2), .none, (.ck 2), .none, (.ck 4), .enter] <| .run 8 [] <| .run 1 [.enter] <| .run 31 [] <| .run 1 [.mg] <| .run 54 [] <| .run 1 [.none, (.ck 2), .none, .none, .enter] <| .run 30 [] <| .use aw352 <| .run 1 [.none, (.ck 1), .none, (.ck 5), .none] <| .run 16 [] <| .use jn2 <| .run 1 [(.ck 6)] <| .run 14 [] <| .run 1 [.enter] <| .run 31 [] <| .run 1 [.mg] <| .run 29 [] <| .run 1 [.enter] <| .run 13 [] <|  .fin
theorem aw353k : crun cfz 100 aw353D [] (ent cfz 100 qa68) = some (qa106, [.eqA qa68 qa68, .eqA qa381 qa381, .eqA qa383 qa383, .eqA qa381 qa381, .eqA qa111 qa111, (.prop (NanExt cfz.P 199 (ExtK.same (AV.ptr 1 0)))), .eqA qa383 qa383, .eqA qa383 qa383, .eqA qa117 qa117, .eqA qa383 qa383, .eqA qa381 qa381, .eqA qa379 qa379, .eqA qa107 qa107]) := by kernel_rfl
theorem aw353 : PureCalls cfz.P cfz.glob 100 qa68 qa106 := closed_ok knil (by kernel_rfl) aw353k ⟨rfl, ⟨rfl, ⟨rfl, ⟨rfl, ⟨rfl, ⟨(fun _ _ => by kernel_rfl), ⟨rfl, rfl, rfl, rfl, rfl, rfl, rfl, trivial⟩⟩⟩⟩⟩⟩⟩
def aw354D : CT cfz := .run 61 [] <|  .fin
theorem aw354k : crun cfz 65 aw354D [] (ent cfz 65 qa276) = some ((.d (.v (.bool true))), []) := by kernel_rfl
theorem aw354 : PureCalls cfz.P cfz.glob 65 qa276 (.d (.v (.bool true))) := closed_ok knil (by kernel_rfl) aw354k trivial
end
end Go.Kv
